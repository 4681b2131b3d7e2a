import Derived.Test.YticjdhgokemdlaaMostSureQ10
import Derived.Test.YticjdhgokemdlaaMostSureQ11
set_option linter.all false
namespace Go.Aev.Wd.Lg
open Go Go.Aev Go.Aev.Gen Go.Aev.Wd Go.IntKind
abbrev Vl:=Nm×Nm
abbrev EV(v:Vl):AV:=AV.agg [B (decide ((nv v.1).num < 0)),AV.t (T.str (bC (dz (nv v.1).num))),B (nc v.1),AV.t (T.str (nd v.1)),B (decide ((nv v.2).num < 0)),AV.t (T.str (bC (dz (nv v.2).num))),B (nc v.2),AV.t (T.str (nd v.2))]
def VC(v:Vl):List T:= [tb (decide ((nv v.1).num < 0)),T.str (bC (dz (nv v.1).num)),tb (nc v.1),T.str (nd v.1),tb (decide ((nv v.2).num < 0)),T.str (bC (dz (nv v.2).num)),tb (nc v.2),T.str (nd v.2)]
theorem cC(v:Vl):VC v= [tb (decide ((nv v.1).num < 0)),T.str (bC (dz (nv v.1).num)),tb (nc v.1),T.str (nd v.1),tb (decide ((nv v.2).num < 0)),T.str (bC (dz (nv v.2).num)),tb (nc v.2),T.str (nd v.2)]:=rfl
def dF(l:List Vl):List (List T):=l.map VC
theorem cD(l:List Vl):(dF l).length=l.length:=by simp [dF]
theorem mz{l:List Vl}{i:Nat}{x:Vl}(h:l[i]? =some x):(dF l)[((i:Nat):Int).toNat]? =some [tb (decide ((nv x.1).num < 0)),T.str (bC (dz (nv x.1).num)),tb (nc x.1),T.str (nd x.1),tb (decide ((nv x.2).num < 0)),T.str (bC (dz (nv x.2).num)),tb (nc x.2),T.str (nd x.2)]:=by simp [dF,h,VC]
theorem FD{l:List Vl}{i:Nat}(hi:i < l.length)(x:Vl):bT ((i:Nat):Int).toNat 0 [tb (decide ((nv x.1).num < 0)),T.str (bC (dz (nv x.1).num)),tb (nc x.1),T.str (nd x.1),tb (decide ((nv x.2).num < 0)),T.str (bC (dz (nv x.2).num)),tb (nc x.2),T.str (nd x.2)] (dF l)=some (dF (l.set i x)):=by
 have h1:(dF l)[((i:Nat):Int).toNat]? =some (VC l[i]):=by simp [dF,hi]
 simp only [bT,h1];simp [bS,dF,VC,VS]
def cP(l:List Nat):List (List T):=l.map λ(v:Nat)=> [ti (v:Int)]
theorem dc(l:List Nat):(cP l).length=l.length:=by simp [cP]
theorem jv{l:List Nat}{i:Nat}{x:Nat}(h:l[i]? =some x):(cP l)[((i:Nat):Int).toNat]? =some [ti (x:Int)]:=by simp [cP,h]
theorem Mp{l:List Nat}{i:Nat}(hi:i < l.length)(x:Nat):bT ((i:Nat):Int).toNat 0 [ti (x:Int)] (cP l)=some (cP (l.set i x)):=by
 have h1:(cP l)[((i:Nat):Int).toNat]? =some [ti (l[i]:Int)]:=by simp [cP,hi]
 simp only [bT,h1];simp [bS,cP,VS]
theorem dB{a:Type}(x y z u v t w:a)(l:List a):(x::y::z::u::v::t::w::l).drop 7=l:=by cases l <;> rfl
theorem bX{a:Type}(x y z u v t w s:a)(l:List a):(x::y::z::u::v::t::w::s::l).drop 8=l:=by cases l <;> rfl
def VB(m:Nat)(v:Vl):Prop:=QB m (nv v.1)/\QB m (nv v.2)
theorem VB.mono{m k:Nat}{v:Vl}(h:VB m v)(a:m<=k):VB k v:=⟨h.1.mono a,h.2.mono a⟩
def kE(a b:Vl):Vl:=(some (nv a.1+nv b.1),some (nv a.2+nv b.2))
def nT(a b:Vl):Vl:=(some (nv a.1 - nv b.1),some (nv a.2 - nv b.2))
def fg(a:Vl)(k:Nm):Vl:=(some (nv a.1 * nv k),some (nv a.2 * nv k))
def eu(a b:Vl):Int:=if cq (nv a.1) (nv b.1)=0 then cq (nv a.2) (nv b.2) else cq (nv a.1) (nv b.1)
theorem JG{m k:Nat}{a b:Vl}(c:VB m a)(hb:VB k b)(h:m+k+1<=6300):Or (.call 68) [EV a,EV b] []=some (VC (kE a b)):=by have d:=yV c.1 hb.1 h;have k2:=yV c.2 hb.2 h;rw [rV] at d k2;rw [cC];refine an ?_;rw [Mw];simp only [ak,↓reduceIte,Int.reduceBEq,Int.reduceEq,GD,d,k2];rfl
theorem uU{m k:Nat}{a b:Vl}(c:VB m a)(hb:VB k b)(h:m+k+1<=6300):Or (.call 41) [EV a,EV b] []=some (VC (nT a b)):=by have d:=CU c.1 hb.1 h;have k2:=CU c.2 hb.2 h;rw [rV] at d k2;rw [cC];refine an ?_;rw [MZ];simp only [ak,↓reduceIte,Int.reduceBEq,Int.reduceEq,GD,d,k2];rfl
theorem pd{m k:Nat}{a:Vl}{b:Nm}(c:VB m a)(hb:QB k (nv b))(h:m+k<=6300):Or (.call 42) [EV a,EN b] []=some (VC (fg a b)):=by have d:=CV c.1 hb h;have k2:=CV c.2 hb h;rw [rV] at d k2;rw [cC];refine an ?_;rw [M0];simp only [ak,↓reduceIte,Int.reduceBEq,Int.reduceEq,GD,d,k2];rfl
theorem uT{m k:Nat}{a b:Vl}(d:VB m a)(hb:VB k b)(h:m+k<=6300):Or (.call 65) [EV a,EV b] []=some [ti (eu a b)]:=by
 have e:=nU d.1 hb.1 h;have k2:=nU d.2 hb.2 h;refine an ?_;rw [Mv];unfold eu;by_cases c:cq (nv a.1) (nv b.1)=0
 .simp only [ak,↓reduceIte,Int.reduceBEq,Int.reduceEq,GD,e,k2,c]
 .simp only [ak,↓reduceIte,Int.reduceBEq,Int.reduceEq,GD,e,k2,c]
abbrev TP(n:Nat)(er:Bool)(rows:List R)(eb:Bool)(af:List Nat)(ev:Bool)(val:List Vl)(eg:Bool)(aw:List Nm):T:=
 T.ptr [ti (n:Int),T.ae 3 er (cV rows),T.ae 1 eb (cP af),T.any,T.any,T.ae 8 ev (dF val),T.ae 4 eg (aQ aw)]
structure Sz (n:Nat) (rows:List R):Prop where
 n:n<=12
 m:rows.length<=40
 tv:∀r∈rows, -1000000<=r.tv/\r.tv<=1000000
def aS(rows:List R)(i:Nat):R:=rows.getD i default
theorem o7{rows:List R}{i:Nat}(h:i < rows.length):rows[i]? =some (aS rows i):=by unfold aS;rw [SV,SZ h];rfl
theorem eG{rows:List R}{i:Nat}(h:i < rows.length):aS rows i∈rows:=SX (o7 h)
def bu(n:Nat)(rows:List R)(v:Nat):Vl:=if v < n then(none,none) else(some ((aS rows (v - n)).tv:Rat),if(aS rows (v - n)).kd=2 then some ((-1:Int):Rat) else none)
def eV(n:Nat)(rows:List R)(v:Nat):Bool:= !decide (v < n) && decide ((aS rows (v - n)).kd=3)
def hJ(n:Nat)(rows:List R)(v:Nat):Vl:=if eV n rows v=true then(some ((aS rows (v - n)).tv:Rat),none) else(none,none)
theorem im(m:Nat):QB m 0:=⟨by simp,by simpa using W9⟩
theorem dS{m:Nat}{c:Int}(h:c.natAbs<=2 ^ m):QB m (c:Rat):=⟨h,W9⟩
theorem qz{n:Nat}{rows:List R}(sz:Sz n rows){v:Nat}(hv:v < n+rows.length):VB 20 (bu n rows v):=by
 unfold bu;by_cases h:v < n
 .rw [if_pos h];exact⟨im _,im _⟩
 .rw [if_neg h];have:=sz.tv _ (eG (i:=v - n) (by omega));refine⟨dS (by omega), ?_⟩;dsimp only;split
  .exact dS (by decide)
  .exact im _
theorem uf{n:Nat}{rows:List R}(sz:Sz n rows){v:Nat}(hv:v < n+rows.length):VB 20 (hJ n rows v):=by
 unfold hJ;by_cases h:eV n rows v=true
 .rw [if_pos h];have b:¬v < n:=λa=>by simp [eV,a] at h
  have:=sz.tv _ (eG (rows:=rows) (i:=v - n) (by omega));exact⟨dS (by omega),im _⟩
 .rw [if_neg h];exact⟨im _,im _⟩
theorem uS{v n:Nat}(h:¬v < n)(hv:v<=1000):i64.wrap ((v:Int) - (n:Int))= ((v - n:Nat):Int):=by rw [Go.Aev.wr (by omega)];omega
section
variable {n:Nat} {rows:List R} (sz:Sz n rows) (er eb ev eg:Bool) (af:List Nat) (val:List Vl) (aw:List Nm)
include sz
theorem sF{v:Nat}(hv:v < n+rows.length):Or (.call 39) [AV.t (TP n er rows eb af ev val eg aw),I (v:Int)] []=some (VC (bu n rows v)++ [tb (!decide (v < n))]):=by
 have e:=sz.n;have hm:=sz.m;refine an ?_;rw [MX,cC];unfold bu;by_cases h:v < n
 .have h1:(v:Int) < (n:Int):=by omega
  simp only [ak,↓reduceIte,Int.reduceBEq,Int.reduceEq,GD,h,h1,decide_true];rfl
 .have h1:¬(v:Int) < (n:Int):=by omega
  have c:=uS h (by omega);have hi:v - n < rows.length:=by omega
  have hr: 0<=((v - n:Nat):Int)/\((v - n:Nat):Int) < (rows.length:Int):=by omega
  have d:=sz.tv _ (eG hi);have a:=yU (aS rows (v - n)).tv (by omega);have k2:=yU (-1) (by omega);rw [rV] at a k2;by_cases b:(aS rows (v - n)).kd=2
  .simp only [ak,↓reduceIte,Int.reduceBEq,Int.reduceEq,GD,h,h1,c,hr,and_self,bB,eC (o7 hi),a,k2,b,decide_false];rfl
  .simp only [ak,↓reduceIte,Int.reduceBEq,Int.reduceEq,GD,h,h1,c,hr,and_self,bB,eC (o7 hi),a,k2,b,decide_false];rfl
theorem uX{v:Nat}(hv:v < n+rows.length):Or (.call 40) [AV.t (TP n er rows eb af ev val eg aw),I (v:Int)] []=some (VC (hJ n rows v)++ [tb (eV n rows v)]):=by
 have g:=sz.n;have hm:=sz.m;refine an ?_;rw [MY,cC];unfold hJ eV;by_cases h:v < n
 .have h1:(v:Int) < (n:Int):=by omega
  simp only [bD,ak,↓reduceIte,Int.reduceBEq,Int.reduceEq,GD,h,h1,decide_true];rfl
 .have h1:¬(v:Int) < (n:Int):=by omega
  have d:=uS h (by omega);have hi:v - n < rows.length:=by omega
  have hr: 0<=((v - n:Nat):Int)/\((v - n:Nat):Int) < (rows.length:Int):=by omega
  have e:=sz.tv _ (eG hi);have b:=yU (aS rows (v - n)).tv (by omega);rw [rV] at b;by_cases a:(aS rows (v - n)).kd=3
  .simp only [ak,↓reduceIte,Int.reduceBEq,Int.reduceEq,GD,h,h1,d,hr,and_self,bB,eC (o7 hi),b,a,decide_false,decide_true];rfl
  .have c:((aS rows (v - n)).kd==3)=false:=by simpa using a
   simp only [ak,↓reduceIte,Int.reduceBEq,Int.reduceEq,GD,h,h1,d,hr,and_self,bB,eC (o7 hi),b,a,c,decide_false];rfl
def aG(val:List Vl)(v:Nat):Vl:=val.getD v (none,none)
omit sz in
theorem mR{val:List Vl}{i:Nat}(h:i < val.length):val[i]? =some (aG val i):=by unfold aG;rw [SV,SZ h];rfl
def eT(n:Nat)(rows:List R)(val:List Vl)(v:Nat)(w:Int):Bool:=
 if w > 0 then decide (v < n) || decide (eu (aG val v) (bu n rows v) < 0) else !eV n rows v || decide (eu (aG val v) (hJ n rows v) > 0)
theorem y7{m:Nat}(j:val.length=n+rows.length)(hb:∀v,v < n+rows.length->VB m (aG val v))(hm:m<=6200){v:Nat}(hv:v < n+rows.length)(w:Int):
  Or (.call 37) [AV.t (TP n er rows eb af ev val eg aw),I (v:Int),I w] []=some [tb (eT n rows val v w)]:=by
 have b:=sF sz er eb ev eg af val aw hv;have k2:=uX sz er eb ev eg af val aw hv;have e:=uT (hb v hv) (qz sz hv) (by omega);have g:=uT (hb v hv) (uf sz hv) (by omega);have hr: 0<=(v:Int)/\(v:Int) < (val.length:Int):=by omega
 have d:=mz (mR (val:=val) (i:=v) (by omega));rw [cC] at b k2;simp only [S7,S8] at b k2;refine an ?_;rw [MV];unfold eT;by_cases a:w > 0
 .by_cases h:v < n
  .simp only [bD,ak,↓reduceIte,Int.reduceBEq,Int.reduceEq,GD,bX,a,b,h,decide_true,Th,Tj,if_true,Xj]
   try rfl
  .simp only [ak,↓reduceIte,Int.reduceBEq,Int.reduceEq,GD,bX,a,b,h,decide_false,hr,and_self,cD,d,e,if_true,Ua,Tj,Th]
 .cases c:eV n rows v
  .rw [c] at k2;simp only [bD,ak,↓reduceIte,Int.reduceBEq,Int.reduceEq,GD,bX,a,k2,Th,Tj,Xj]
   try rfl
  .rw [c] at k2;simp only [ak,↓reduceIte,Int.reduceBEq,Int.reduceEq,GD,bX,a,k2,hr,and_self,cD,d,g,Ua,Tj,Th]
def cG(n:Nat)(rows:List R)(val:List Vl):List Nat->Int×Int->Int×Int
 | [],p=>p
 | b::r,p=>if p.1>=0/\(b:Int) > p.1 then cG n rows val r p else
  if eV n rows b=true/\eu (aG val b) (hJ n rows b) < 0 then cG n rows val r (b,1) else
  if ¬b < n/\eu (aG val b) (bu n rows b) > 0 then cG n rows val r (b, -1) else cG n rows val r p
theorem Sg{m:Nat}(J:val.length=n+rows.length)(hb:∀v,v < n+rows.length->VB m (aG val v))(hm:m<=6200)(B:∀b∈af,b < n+rows.length)(G:af.length<=1000):
  ∀(a:List Nat) (i:Nat) (p:Int×Int),af.drop i=a->
  Or wC [AV.t (TP n er rows eb af ev val eg aw),I p.1,I p.2,AV.t (T.ae 1 eb (cP af)),I (af.length:Int),I (i:Int)] []=some [ti (cG n rows val a p).1,ti (cG n rows val a p).2]:=by
 intro a;induction a with
 | nil=>
  intro i p h;have h1:¬(i:Int) < (af.length:Int):=by have:=bF h;omega
  refine an ?_;rw [oB];simp only [ak,↓reduceIte,Int.reduceBEq,Int.reduceEq,GD,h1,cG]
 | cons b a A=>
  intro i p h;obtain⟨q,H,y⟩:=bz h;have h1:(i:Int) < (af.length:Int):=by omega
  have d: 0<=(i:Int):=by omega
  have o:=B b (SX q);have r:=sF sz er eb ev eg af val aw o;have k2:=uX sz er eb ev eg af val aw o;have u:=uT (hb b o) (qz sz o) (by omega);have w:=uT (hb b o) (uf sz o) (by omega);have hr: 0<=(b:Int)/\(b:Int) < (val.length:Int):=by omega
  have s:=mz (mR (val:=val) (i:=b) (by omega));rw [cC] at r k2;simp only [S7,S8] at r k2;have x:=A (i+1) p y;have E:=A (i+1) ((b:Int),1) y;have F:=A (i+1) ((b:Int), -1) y;by_cases hs:p.1>=0/\(b:Int) > p.1
  .have C:=hs.1;have D:=hs.2;have c:cG n rows val (b::a) p=cG n rows val a p:=by rw [cG,if_pos hs]
   rw [c];refine an ?_;rw [oB];simp only [ak,↓reduceIte,Int.reduceBEq,Int.reduceEq,GD,h1,d,and_self,dc,jv q,C,D,decide_true,if_true,next i (by omega)];exact x
  .have l:(if p.1>=0 then decide ((b:Int) > p.1) else false)=false:=by
    by_cases z:p.1>=0
    .rw [if_pos z];exact decide_eq_false (λj=>hs ⟨z,j⟩)
    .rw [if_neg z]
   by_cases h:b < n
   .have e:eV n rows b=false:=by simp [eV,h]
    rw [e] at k2;have c:cG n rows val (b::a) p=cG n rows val a p:=by rw [cG,if_neg hs,if_neg (by rw [e];simp),if_neg (λj=>j.1 h)]
    rw [c];refine an ?_;rw [oB];simp only [bD,ak,↓reduceIte,Int.reduceBEq,Int.reduceEq,GD,bX,h1,d,hr,and_self,dc,jv q,l,r,k2,h,decide_true,Th,cD,s,Ts,next i (by omega)];exact x
   .cases e:eV n rows b
    .rw [e] at k2;by_cases g:eu (aG val b) (bu n rows b) > 0
     .have c:cG n rows val (b::a) p=cG n rows val a ((b:Int), -1):=by
       rw [cG,if_neg hs,if_neg (by rw [e];simp),if_pos ⟨h,g⟩]
      rw [c];refine an ?_;rw [oB];simp only [bD,ak,↓reduceIte,Int.reduceBEq,Int.reduceEq,GD,bX,h1,d,hr,and_self,dc,jv q,l,r,k2,h,decide_false,decide_true,Tj,cD,s,Ts,u,g,next i (by omega)];exact F
     .have c:cG n rows val (b::a) p=cG n rows val a p:=by
       rw [cG,if_neg hs,if_neg (by rw [e];simp),if_neg (λj=>g j.2)]
      rw [c];refine an ?_;rw [oB];simp only [bD,ak,↓reduceIte,Int.reduceBEq,Int.reduceEq,GD,bX,h1,d,hr,and_self,dc,jv q,l,r,k2,h,decide_false,decide_true,Tj,cD,s,Ts,u,g,next i (by omega)];exact x
    .rw [e] at k2;by_cases k:eu (aG val b) (hJ n rows b) < 0
     .have c:cG n rows val (b::a) p=cG n rows val a ((b:Int),1):=by
       rw [cG,if_neg hs,if_pos ⟨e,k⟩]
      rw [c];refine an ?_;rw [oB];by_cases g:eu (aG val b) (bu n rows b) > 0
      .simp only [ak,↓reduceIte,Int.reduceBEq,Int.reduceEq,GD,bX,h1,d,hr,and_self,dc,jv q,l,r,k2,h,decide_false,decide_true,Tj,cD,s,u,w,g,k,next i (by omega)];exact E
      .simp only [ak,↓reduceIte,Int.reduceBEq,Int.reduceEq,GD,bX,h1,d,hr,and_self,dc,jv q,l,r,k2,h,decide_false,decide_true,Tj,cD,s,u,w,g,k,next i (by omega)];exact E
     .by_cases g:eu (aG val b) (bu n rows b) > 0
      .have c:cG n rows val (b::a) p=cG n rows val a ((b:Int), -1):=by
        rw [cG,if_neg hs,if_neg (λj=>k j.2),if_pos ⟨h,g⟩]
       rw [c];refine an ?_;rw [oB];simp only [ak,↓reduceIte,Int.reduceBEq,Int.reduceEq,GD,bX,h1,d,hr,and_self,dc,jv q,l,r,k2,h,decide_false,decide_true,Tj,cD,s,u,w,g,k,next i (by omega)];exact F
      .have c:cG n rows val (b::a) p=cG n rows val a p:=by
        rw [cG,if_neg hs,if_neg (λj=>k j.2),if_neg (λj=>g j.2)]
       rw [c];refine an ?_;rw [oB];simp only [ak,↓reduceIte,Int.reduceBEq,Int.reduceEq,GD,bX,h1,d,hr,and_self,dc,jv q,l,r,k2,h,decide_false,decide_true,Tj,cD,s,u,w,g,k,next i (by omega)];exact x
def iw(n:Nat)(rows:List R)(val:List Vl)(af:List Nat):Int×Int:=cG n rows val af (-1,0)
theorem J1{m:Nat}(d:val.length=n+rows.length)(hb:∀v,v < n+rows.length->VB m (aG val v))(hm:m<=6200)(c:∀b∈af,b < n+rows.length)(a:af.length<=1000):
  Or (.call 36) [AV.t (TP n er rows eb af ev val eg aw)] []=some [ti (iw n rows val af).1,ti (iw n rows val af).2]:=by
 have:=Sg sz er eb ev eg af val aw d hb hm c a af 0 (-1,0) rfl;refine an ?_;rw [MU];simp only [dc];exact this
end
open Go Go.Aev Go.Aev.Gen Go.Aev.Wd
def bE:Nat->List (List Nm)->List Row
 | _,[]=> []
 | s,x::r=>⟨s,[T.aC],some (false,aQ x)⟩::bE (s+1) r
theorem cB:∀(s:Nat) (l:List (List Nm)),(bE s l).length=l.length
 | _,[]=>rfl
 | s,x::r=>by simp [bE,cB (s+1) r]
def au(aj:List (List Nm))(i:Nat):List Nm:=aj.getD i []
theorem iQ{aj:List (List Nm)}{i:Nat}(h:i < aj.length):aj[i]? =some (au aj i):=by unfold au;rw [SV,SZ h];rfl
theorem Hp:∀{l:List (List Nm)} {s i:Nat} {x:List Nm},l[i]? =some x->(bE s l)[i]? =some ⟨s+i,[T.aC],some (false,aQ x)⟩
 | [],_,_,_,h=>by simp at h
 | y::r,s,0,x,h=>by simp at h;subst h;rfl
 | y::r,s,i+1,x,h=>by have:=Hp (l:=r) (s:=s+1) (i:=i) (x:=x) (by simpa using h);rw [show s+ (i+1)=s+1+i by omega];simpa [bE] using this
theorem kQ{aj:List (List Nm)}{i:Nat}(h:i < aj.length):(bE 0 aj)[((i:Nat):Int).toNat]? =some ⟨i,[T.aC],some (false,aQ (au aj i))⟩:=by have:=Hp (s:=0) (iQ h);rw [TC] at this;simpa using this
theorem Gd:∀{l:List (List Nm)} {s i:Nat} {x:List Nm},l[i]? =some x->bt (s+i) (bE s l)=some (false,aQ x)
 | [],_,_,_,h=>by simp at h
 | y::r,s,0,x,h=>by simp at h;subst h;simp [bE,bt]
 | y::r,s,i+1,x,h=>by
  have:=Gd (l:=r) (s:=s+1) (i:=i) (x:=x) (by simpa using h);rw [show s+ (i+1)=s+1+i by omega];have a:¬s=s+1+i:=by omega
  simp only [bE,bt,if_neg a];exact this
theorem jx{aj:List (List Nm)}{i:Nat}(h:i < aj.length):bt i (bE 0 aj)=some (false,aQ (au aj i)):=by have:=Gd (s:=0) (iQ h);rwa [TC] at this
theorem I6:∀{l:List (List Nm)} {s i:Nat} (p:Bool×List (List T)) (y:List Nm),p= (false,aQ y)->i < l.length->dt (s+i) (some p) (dt (s+i) none (bE s l))=bE s (l.set i y)
 | [],_,_,_,_,_,h=>by simp at h
 | z::r,s,0,p,y,e,_=>by subst e;simp [bE,dt]
 | z::r,s,i+1,p,y,e,h=>by
  have:=I6 (l:=r) (s:=s+1) (i:=i) p y e (by simpa using h);rw [show s+ (i+1)=s+1+i by omega];have a:¬s=s+1+i:=by omega
  simp only [bE,dt,if_neg a,this,VW]
theorem QW{aj:List (List Nm)}{i:Nat}(y:List Nm)(h:i < aj.length):dt i (some (false,aQ y)) (dt i none (bE 0 aj))=bE 0 (aj.set i y):=by have:=I6 (s:=0) (i:=i) (false,aQ y) y rfl h;rwa [TC] at this
theorem HT:∀{l:List (List Nm)} {s i:Nat},i < l.length->lR (s+i) (dt (s+i) none (bE s l))=some ()
 | [],_,_,h=>by simp at h
 | z::r,s,0,_=>by simp [bE,dt,lR]
 | z::r,s,i+1,h=>by
  have:=HT (l:=r) (s:=s+1) (i:=i) (by simpa using h);rw [show s+ (i+1)=s+1+i by omega];have a:¬s=s+1+i:=by omega
  simp only [bE,dt,lR,if_neg a,this]
theorem Pf{aj:List (List Nm)}{i:Nat}(h:i < aj.length):lR i (dt i none (bE 0 aj))=some ():=by have:=HT (s:=0) h;rwa [TC] at this
theorem cu:∀(l:List (List Nm)) (s:Nat),bJ (bE s l)=true
 | [],_=>rfl
 | x::r,s=>by
  have:=cu r (s+1);unfold bJ at *
  simp [bE,this]
theorem Qj(s:Nat)(cs:List T)(p:Bool×List (List T)):o8 ⟨s,cs,some p⟩=T.ae 0 p.1 p.2:=rfl
theorem Ez:∀(l:List (List Nm)) (s:Nat),rp s ((bE s l).map λe=> [.ptr e.cs,o8 e])=some (bE s l)
 | [],_=>rfl
 | x::r,s=>by have:=Ez r (s+1);simp only [bE,TQ,Qj,rp];rw [this];rfl
theorem dA(b:Bool)(l:List (List Nm)):kI (bI b (bE 0 l))=some (b,bE 0 l):=by simp only [bI,kI];rw [Ez];rfl
theorem FE:∀(l:List (List Nm)) (s i k:Nat) (y:List Nm),((bE s l).set i ⟨k,[T.aC],some (false,aQ y)⟩).map (λe=> [.ptr e.cs,o8 e])= (bE s (l.set i y)).map (λe=> [T.ptr e.cs,o8 e])
 | [],_,_,_,_=>rfl
 | z::r,s,0,k,y=>by simp [bE,o8]
 | z::r,s,i+1,k,y=>by have:=FE r (s+1) i k y;simp only [bE,VW,TQ,this]
theorem Mr(b:Bool)(l:List (List Nm))(i k:Nat)(y:List Nm):bI b ((bE 0 l).set i ⟨k,[T.aC],some (false,aQ y)⟩)=bI b (bE 0 (l.set i y)):=by simp only [bI,FE]
theorem Kj(l:List Row)(i k:Nat)(cs:List T)(p:Bool×List (List T))(h:bJ l=true):bJ (l.set i ⟨k,cs,some p⟩)=true:=by
 unfold bJ at *
 rw [Tk] at *
 intro x a;rcases Ty a with h1 | h1
 .exact h x h1
 .subst h1;rfl
abbrev Ln:=List (Nat×Nat)
def bP(l:Ln):List (List T×T):=l.map λp=>([ti (p.1:Int)],ti (p.2:Int))
def bV(v:Nat):Ln->Option Nat
 | []=>none
 | p::r=>if v=p.1 then some p.2 else bV v r
def jb(v i:Nat):Ln->Ln
 | []=> [(v,i)]
 | p::r=>if v=p.1 then(v,i)::r else p::jb v i r
def kJ(v:Nat):Ln->Ln
 | []=> []
 | p::r=>if v=p.1 then r else p::kJ v r
theorem A4(a b:Nat):dQ [ti (a:Int)] [ti (b:Int)]=decide (a=b):=by
 by_cases h:a=b
 .subst h;simp [dQ,nh]
 .have:¬(a:Int)= (b:Int):=by omega
  simp [dQ,nh,h,this]
theorem tP(v:Nat):∀(l:Ln),fc [ti (v:Int)] (bP l)= (bV v l).map λ(i:Nat)=>ti (i:Int)
 | []=>rfl
 | p::r=>by
  have:=tP v r;unfold bP at *
  rw [TQ,fc,A4,bV];by_cases h:v=p.1
  .simp [h]
  .simp [h,this]
theorem yy(v i:Nat):∀(l:Ln),gJ [ti (v:Int)] (ti (i:Int)) (bP l)=bP (jb v i l)
 | []=>rfl
 | p::r=>by
  have:=yy v i r;unfold bP at *
  rw [TQ,gJ,A4,jb];by_cases h:v=p.1
  .simp [h]
  .simp [h,this]
theorem Ax(v:Nat):∀(l:Ln),iT [ti (v:Int)] (bP l)=bP (kJ v l)
 | []=>rfl
 | p::r=>by
  have:=Ax v r;unfold bP at *
  rw [TQ,iT,A4,kJ];by_cases h:v=p.1
  .simp [h]
  .simp [h,this]
theorem ye(u v i:Nat):∀(l:Ln),bV u (jb v i l)=if u=v then some i else bV u l
 | []=>by simp [jb,bV]
 | p::r=>by
  have:=ye u v i r;rw [jb];by_cases h:v=p.1
  .rw [if_pos h];simp only [bV];by_cases a:u=v
   .simp [a]
   .have b:¬u=p.1:=by rw [<-h];exact a
    simp [a,b]
  .rw [if_neg h];simp only [bV,this];by_cases a:u=p.1
   .have b:¬u=v:=λe=>h (by rw [<-e,a]);rw [if_pos a,if_neg b,if_pos a]
   .rw [if_neg a,if_neg a]
def oa:Ln->Prop
 | []=>True
 | p::r=>bV p.1 r=none/\oa r
theorem yd(u v:Nat):∀(l:Ln),oa l->bV u (kJ v l)=if u=v then none else bV u l
 | [],_=>by simp [kJ,bV]
 | p::r,h=>by
  have:=yd u v r h.2;rw [kJ];by_cases hv:v=p.1
  .rw [if_pos hv];by_cases a:u=v
   .rw [if_pos a,a,hv];exact h.1
   .rw [if_neg a,bV,if_neg (by rw [<-hv];exact a)]
  .rw [if_neg hv];simp only [bV,this];by_cases a:u=p.1
   .have b:¬u=v:=λe=>hv (by rw [<-e,a]);rw [if_pos a,if_neg b,if_pos a]
   .rw [if_neg a,if_neg a]
theorem By(v i:Nat):∀(l:Ln),oa l->oa (jb v i l)
 | [],_=>⟨rfl,trivial⟩
 | p::r,h=>by
  rw [jb];by_cases hv:v=p.1
  .rw [if_pos hv];exact⟨by rw [hv];exact h.1,h.2⟩
  .rw [if_neg hv];refine⟨?_,By v i r h.2⟩;rw [ye,if_neg (λe=>hv e.symm)];exact h.1
theorem GX(v:Nat):∀(l:Ln),oa l->oa (kJ v l)
 | [],_=>trivial
 | p::r,h=>by
  rw [kJ];by_cases hv:v=p.1
  .rw [if_pos hv];exact h.2
  .rw [if_neg hv];refine⟨?_,GX v r h.2⟩;rw [yd _ _ _ h.2,if_neg (λe=>hv e.symm)];exact h.1
structure TL where
 af:List Nat
 mp:Ln
 aj:List (List Nm)
 val:List Vl
 aw:List Nm
structure Fl where
 er:Bool
 eb:Bool
 ec:Bool
 ev:Bool
 eg:Bool
abbrev S1(n:Nat)(rows:List R)(f:Fl)(t:TL):List aa:=
 [aa.box [I (n:Int),AV.t (T.ae 3 f.er (cV rows)),AV.own (Id.c 1),AV.own (Id.c 2),AV.own (Id.c 3),AV.own (Id.c 4),AV.own (Id.c 5)],aa.sl false 1 f.eb (cP t.af),aa.mp false [Ck.i .i64] (Ck.i .i64) (bP t.mp),
  aa.rows f.ec 1 0 4 t.aj.length (bE 0 t.aj),aa.sl false 8 f.ev (dF t.val),aa.sl false 4 f.eg (aQ t.aw)]
abbrev S2(n:Nat)(rows:List R)(f:Fl)(t:TL):List aa:=
 [aa.box [I (n:Int),AV.t (T.ae 3 f.er (cV rows)),AV.own (Id.c 1),AV.own (Id.c 2),AV.own (Id.c 6),AV.own (Id.c 4),AV.own (Id.c 5)],aa.sl false 1 f.eb (cP t.af),aa.mp false [Ck.i .i64] (Ck.i .i64) (bP t.mp),
  aa.dead,aa.sl false 8 f.ev (dF t.val),aa.sl false 4 f.eg (aQ t.aw),aa.rows f.ec 1 0 4 t.aj.length (bE 0 t.aj)]
def fi(n:Nat)(rows:List R)(f:Fl)(t:TL):List T:=
 [ti (n:Int),T.ae 3 f.er (cV rows),T.aC,T.aC,bI f.ec (bE 0 t.aj),T.aC,T.aC,T.ae 1 f.eb (cP t.af),bK (bP t.mp),T.ae 8 f.ev (dF t.val),T.ae 4 f.eg (aQ t.aw)]
theorem dJ(n:Nat)(rows:List R)(f:Fl)(t:TL):fi n rows f t= [ti (n:Int),T.ae 3 f.er (cV rows),T.aC,T.aC,bI f.ec (bE 0 t.aj),T.aC,T.aC,T.ae 1 f.eb (cP t.af),bK (bP t.mp),T.ae 8 f.ev (dF t.val),T.ae 4 f.eg (aQ t.aw)]:=rfl
theorem cA{a:Type}(k:Unit->Option a):ab none (if(true:Bool)=true then some () else none) k=k ():=by rw [if_pos rfl];rfl
open Go Go.Aev Go.Aev.Gen Go.Aev.Wd
def ao(l:List Nm)(v:Nat):Nm:=l.getD v none
theorem gg{l:List Nm}{i:Nat}(h:i < l.length):l[i]? =some (ao l i):=by unfold ao;rw [SV,SZ h];rfl
def gI(v:Nat)(a:Vl):List Nat->List (List Nm)->List Vl->List Vl
 | b::bs,x::xs,val=>gI v a bs xs (val.set b (kE (aG val b) (fg a (ao x v))))
 | _,_,val=>val
theorem qA{val:List Vl}{i:Nat}(h:i < val.length)(x:Vl)(j:Nat):aG (val.set i x) j=if j=i then x else aG val j:=by
 unfold aG;rw [SV,SV,Ue];by_cases a:j=i
 .subst a;simp [h]
 .have:¬i=j:=λe=>a e.symm;simp [a,this]
theorem nD{m k:Nat}{a:Vl}{b:Nm}(c:VB m a)(hb:QB k (nv b)):VB (m+k) (fg a b):=⟨c.1.mul hb,c.2.mul hb⟩
theorem sB{m k:Nat}{a b:Vl}(c:VB m a)(hb:VB k b):VB (m+k+1) (nT a b):=⟨c.1.sub hb.1,c.2.sub hb.2⟩
abbrev wU(v:Vl):aa:=aa.box [B (decide ((nv v.1).num < 0)),AV.t (T.str (bC (dz (nv v.1).num))),B (nc v.1),AV.t (T.str (nd v.1)),B (decide ((nv v.2).num < 0)),AV.t (T.str (bC (dz (nv v.2).num))),B (nc v.2),AV.t (T.str (nd v.2))]
structure cF (n m:Nat) (t:TL):Prop where
 b:t.af.length=m
 c:t.aj.length=m
 r:∀x∈t.aj,x.length=n+m
 v:t.val.length=n+m
 lt:∀b∈t.af,b < n+m
 nd:t.af.Nodup
theorem cF.row{n m:Nat}{t:TL}(h:cF n m t){i:Nat}(hi:i < m):(au t.aj i).length=n+m:=h.r _ (SX (iQ (by rw [h.c];exact hi)))
theorem Hz(v:Nat)(a:Vl):∀(bs:List Nat) (xs:List (List Nm)) (val:List Vl),(gI v a bs xs val).length=val.length
 | [],_,_=>by simp [gI]
 | _::_,[],_=>by simp [gI]
 | b::bs,x::xs,val=>by rw [gI,Hz];simp
section
variable {n:Nat} {rows:List R} (f:Fl) (t:TL)
theorem Si{m k l:Nat}(d:cF n m t){v:Nat}{w:Vl}(hv:v < n+m)(hm:m<=40)
  (J:VB k w) (u:∀x∈t.aj,QB l (nv (ao x v))) {a:Nat} (N:a+ (k+l)+1<=6300):
  ∀(bs:List Nat) (xs:List (List Nm)) (i:Nat) (val:List Vl),t.af.drop i=bs->t.aj.drop i=xs->val.length=n+m->(∀b∈bs,VB a (aG val b))->
  Or zG [r0,I (v:Int),AV.ref (Id.c 6) 0,AV.own (Id.c 1),I (t.af.length:Int),I (i:Int)] (S1 n rows f ⟨t.af,t.mp,t.aj,val,t.aw⟩ ++ [wU w])=some (fi n rows f ⟨t.af,t.mp,t.aj,gI v w bs xs val,t.aw⟩):=by
 intro bs;induction bs with
 | nil=>
  intro xs i val hb p D o;have h1:¬(i:Int) < (t.af.length:Int):=by have:=bF hb;omega
  have E:gI v w [] xs val=val:=by cases xs <;> rfl
  rw [E,dJ];refine an ?_;simp only [S7,S8];rw [FX];simp only [ak,↓reduceIte,Int.reduceBEq,Int.reduceEq,GD,h1,cu,cA]
 | cons b bs O=>
  intro xs i val hb p D o;obtain⟨q,W,M⟩:=bz hb;have T:=d.b;have U:=d.c;cases xs with
  | nil=>have:=bF p;omega
  | cons x xs=>
   obtain⟨g,x2,Q⟩:=bz p;have V:=d.r x (SX g);have S:=d.lt b (SX q);have h1:(i:Int) < (t.af.length:Int):=by omega
   have B: 0<=(i:Int):=by omega
   have C:(i:Int) < (t.aj.length:Int):=by omega
   have s: 0<=(b:Int)/\(b:Int) < (val.length:Int):=by omega
   have H: 0<=(v:Int)/\(v:Int) < (x.length:Int):=by omega
   have y:au t.aj i=x:=by have:=iQ (aj:=t.aj) (i:=i) (by omega);rw [g] at this;exact(TE this).symm
   have A:=kQ (aj:=t.aj) (i:=i) (by omega);have z:=jx (aj:=t.aj) (i:=i) (by omega);rw [y] at A z;have K:=pd J (u x (SX g)) (by omega);have G:=o b SW;have k2:=JG G (nD J (u x (SX g))) N;have P:=FD (l:=val) (i:=b) (by omega) (kE (aG val b) (fg w (ao x v)));rw [cC] at K k2;have j:=d.nd;rw [<-WK i t.af,hb] at j;have F:b∉bs:=(Ud.1 (UC.1 j).2.1).1;have:=O xs (i+1) (val.set b (kE (aG val b) (fg w (ao x v)))) M Q (by rw [TT];exact D) (λL h=>by
    rw [qA (by omega),if_neg (λe=>F (by rw [<-e];exact h))];exact o L (SY _ h))
   simp only [S7,S8] at this;rw [gI];refine an ?_;simp only [S7,S8];rw [FX];simp only [ak,↓reduceIte,Int.reduceBEq,Int.reduceEq,GD,h1,B,C,and_self,dc,jv q,s,cD,mz (mR (val:=val) (i:=b) (by omega)),cB,A,z,H,bA,cg (gg (l:=x) (i:=v) (by omega)),K,k2,P,next i (by omega)];exact this
def dG(v:Nat)(w:Vl)(t:TL):TL:=⟨t.af,t.mp,t.aj,gI v w t.af t.aj (t.val.set v (kE (aG t.val v) w)),t.aw⟩
theorem sG{m k l:Nat}(c:cF n m t){v:Nat}{w:Vl}(hv:v < n+m)(hm:m<=40)(g:v∉t.af)
  (o:VB k w) (r:∀x∈t.aj,QB l (nv (ao x v))) {a:Nat} (q:a+ (k+l)+1<=6300) (d:∀u,u < n+m->VB a (aG t.val u)):
  Or (.call 44) [r0,I (v:Int),EV w] (S1 n rows f t)=some (fi n rows f (dG v w t)):=by
 have h:=c.v;have p:=JG (d v hv) o (by omega);rw [cC] at p;have s:=FD (l:=t.val) (i:=v) (by omega) (kE (aG t.val v) w);have j: 0<=(v:Int)/\(v:Int) < (t.val.length:Int):=by omega
 have:=Si (n:=n) (rows:=rows) f t c hv hm o r q t.af t.aj 0 (t.val.set v (kE (aG t.val v) w)) rfl rfl (by rw [TT];exact h) (λb hb=>by
  rw [qA (by omega),if_neg (λe=>g (by rw [<-e];exact hb))];exact d b (c.lt b hb))
 simp only [S7,S8] at this;refine an ?_;rw [M3];simp only [ak,↓reduceIte,Int.reduceBEq,Int.reduceEq,GD,j,and_self,cD,mz (mR (val:=t.val) (i:=v) (by omega)),p,s,dc];exact this
end
open Go Go.Aev Go.Aev.Gen Go.Aev.Wd
def pl(x y:Nm):Nm:=some (nv x+nv y)
def mi(x y:Nm):Nm:=some (nv x - nv y)
def tm(x y:Nm):Nm:=some (nv x * nv y)
def ov(x y:Nm):Nm:=some (nv x / nv y)
def ng(x:Nm):Nm:=some (-(nv x))
def iN(x:Int):Nm:=some (x:Rat)
theorem HW(x y:Nm):nv (mi x y)=nv x - nv y:=rfl
theorem HX(x y:Nm):nv (tm x y)=nv x * nv y:=rfl
theorem Pn(x y:Nm):nv (ov x y)=nv x / nv y:=rfl
theorem Pm(x:Nm):nv (ng x)= -(nv x):=rfl
theorem BZ(x:Int):nv (iN x)= (x:Rat):=rfl
abbrev QN(m:Nat)(x:Nm):Prop:=QB m (nv x)
abbrev NL(x:Nm):List T:= [tb (decide ((nv x).num < 0)),T.str (bC (dz (nv x).num)),tb (nc x),T.str (nd x)]
theorem mG{m k:Nat}{x y:Nm}(a:QN m x)(b:QN k y)(h:m+k+1<=6300):Or (.call 46) [EN x,EN y] []=some (NL (pl x y)):=yV a b h
theorem B7{m k:Nat}{x y:Nm}(a:QN m x)(b:QN k y)(h:m+k+1<=6300):Or (.call 67) [EN x,EN y] []=some (NL (mi x y)):=CU a b h
theorem kT{m k:Nat}{x y:Nm}(a:QN m x)(b:QN k y)(h:m+k<=6300):Or (.call 47) [EN x,EN y] []=some (NL (tm x y)):=CV a b h
theorem mH{m k:Nat}{x y:Nm}(b:QN m x)(c:QN k y)(h:m+k<=6300)(a:nv y≠0):Or (.call 43) [EN x,EN y] []=some (NL (ov x y))/\QN (m+k) (ov x y):=RA b c h a
theorem B6(x:Nm):Or (.call 66) [EN x] []=some (NL (ng x)):=JF x
theorem fy(x:Int)(h: -9223372036854775808<=x/\x < 9223372036854775808):Or (.call 29) [I x] []=some (NL (iN x)):=yU x h
theorem fO(q:Rat):q.num.sign=0↔q=0:=by rw [Xh,Xt]
abbrev gN(x:Nm):aa:=aa.box [B (decide ((nv x).num < 0)),AV.t (T.str (bC (dz (nv x).num))),B (nc x),AV.t (T.str (nd x))]
def ij(c:Nm):List Nm->List Nm->List Nm
 | r::b,y::a=>(if nv r=0 then y else pl y (tm c r))::ij c b a
 | _,a=>a
def ji(row:List Nm)(v:Nat)(l:List Nm):List Nm:=if nv (ao l v)=0 then l else ij (ao l v) row (l.set v none)
theorem qm{c:Type}(a:List c)(b v:c)(r:List c)(i:Nat)(h:a.length=i):(a++b::r).set i v=a++v::r:=by subst h;simp
theorem RJ{mr ml mc:Nat}(e0 e3:Bool)(v:Nat)(c:Nm)(row:List Nm)(z:QN mc c)(hr:∀x∈row,QN mr x)(hs:ml+ (mc+mr)+1<=6300)(hrl:row.length<=100):
  ∀(d a b:List Nm) (k:Nat),row.drop k=d->b.length=k->d.length=a.length->(∀y∈a,QN ml y)->
  Or sW [AV.own (Id.c 0),AV.ref (Id.c 4) 0,AV.own (Id.c 3),I (row.length:Int),I (k:Int)] [aa.sl false 4 e0 (aQ (b++a)),aa.box [I (v:Int)],aa.box [AV.own (Id.c 3)],aa.sl false 4 e3 (aQ row),gN c]=
   some [T.ae 4 e0 (aQ (b++ij c d a)),ti (v:Int),T.aC,T.ae 4 e3 (aQ row)]:=by
 intro d;induction d with
 | nil=>
  intro a b k h q m hy;have h1:¬(k:Int) < (row.length:Int):=by have:=bF h;omega
  have e:ij c [] a=a:=rfl;rw [e];refine an ?_;rw [AN];simp only [ak,↓reduceIte,Int.reduceBEq,Int.reduceEq,GD,h1]
 | cons r d C=>
  intro a b k h q m hy;obtain⟨p,J,w⟩:=bz h;cases a with
  | nil=>simp at m
  | cons y a=>
   have h1:(k:Int) < (row.length:Int):=by omega
   have o: 0<=(k:Int):=by omega
   have H:(b++y::a).length=k+1+a.length:=by simp;omega
   have B:(k:Int) < ((b++y::a).length:Int):=by omega
   have A:(b++y::a)[k]? =some y:=by rw [T4 (by omega),q,VF];rfl
   have q1:=hr r (SX p);have G:=hy y SW;have ks:=lf r;by_cases j:nv r=0
   .have e:ij c (r::d) (y::a)=y::ij c d a:=by rw [ij,if_pos j]
    have g:=(fO (nv r)).2 j;have:=C a (b++ [y]) (k+1) w (by simp;omega) (by simpa using m) (λu s=>hy u (SY _ s));simp only [TN,S7,S8] at this;rw [e];refine an ?_;rw [AN];simp only [ak,↓reduceIte,Int.reduceBEq,Int.reduceEq,GD,h1,o,and_self,bA,cg p,ks,g,next k (by omega)];exact this
   .have e:ij c (r::d) (y::a)=pl y (tm c r)::ij c d a:=by rw [ij,if_neg j]
    have g:¬(nv r).num.sign=0:=λE=>j ((fO _).1 E);have F:=kT z q1 (by omega);have k2:=mG (x:=y) (y:=tm c r) G (z.mul q1) hs;have D:=jQ (l:=b++y::a) (i:=k) (by omega) (pl y (tm c r));rw [qm _ _ _ _ _ q] at D;have:=C a (b++ [pl y (tm c r)]) (k+1) w (by simp;omega) (by simpa using m) (λu s=>hy u (SY _ s));simp only [TN,S7,S8] at this;rw [e];refine an ?_;rw [AN];simp only [ak,↓reduceIte,Int.reduceBEq,Int.reduceEq,GD,h1,o,B,and_self,bA,cg p,cg A,ks,g,F,k2,D,next k (by omega)];exact this
theorem JV{mr ml:Nat}(e0 e3:Bool)(v:Nat)(row l:List Nm)(hr:∀x∈row,QN mr x)(g:∀x∈l,QN ml x)(hs:ml+ (ml+mr)+1<=6300)(hrl:row.length<=100)(h:row.length=l.length)(hv:v < l.length):
  Or (.call 69) [AV.own (Id.c 0),AV.ref (Id.c 1) 0,AV.ref (Id.c 2) 0] [aa.sl false 4 e0 (aQ l),aa.box [I (v:Int)],aa.box [AV.own (Id.c 3)],aa.sl false 4 e3 (aQ row)]=
   some [T.ae 4 e0 (aQ (ji row v l)),ti (v:Int),T.aC,T.ae 4 e3 (aQ row)]:=by
 have d: 0<=(v:Int)/\(v:Int) < (l.length:Int):=by omega
 have e:=gg hv;have ks:=lf (ao l v);unfold ji;by_cases b:nv (ao l v)=0
 .have a:=(fO (nv (ao l v))).2 b;rw [if_pos b];refine an ?_;rw [FH];simp only [ak,↓reduceIte,Int.reduceBEq,Int.reduceEq,GD,d,and_self,bA,cg e,ks,a]
 .have a:¬(nv (ao l v)).num.sign=0:=λk=>b ((fO _).1 k);have j:=jQ (l:=l) (i:=v) hv none;rw [show [tb (decide ((nv none).num < 0)),T.str (bC (dz (nv none).num)),tb (nc none),T.str (nd none)]= [tb false,T.str (ByteArray.mk #[]),tb false,T.str (ByteArray.mk #[])] from rfl] at j;have:=RJ (mr:=mr) (ml:=ml) (mc:=ml) e0 e3 v (ao l v) row (g _ (SX e)) hr hs hrl row (l.set v none) [] 0 rfl rfl (by simpa using h) (λy hy=>by
   rcases Ty hy with h1 | h1
   .exact g y h1
   .subst h1;exact im _)
  simp only [S8] at this;rw [if_neg b];refine an ?_;rw [FH];simp only [ak,↓reduceIte,Int.reduceBEq,Int.reduceEq,GD,d,and_self,bA,cg e,ks,a,j];exact this
def fL(row:List Nm)(v i:Nat):Nat->List (List Nm)->List (List Nm)
 | _,[]=> []
 | k,x::xs=>(if k=i then x else ji row v x)::fL row v i (k+1) xs
def ct(x:List Nm)(v b:Nat):List Nm:=((x.map λy=>ng (ov y (ao x v))).set v none).set b (ov (iN 1) (ao x v))
def eX(i v b:Nat)(row:List Nm)(eg:Bool)(t:TL):TL:=
 ⟨t.af.set i v,jb v i (kJ b t.mp),(fL row v i 0 t.aj).set i row,t.val,if eg then t.aw else ji row v t.aw⟩
theorem CH(row:List Nm)(v i:Nat):∀(xs:List (List Nm)) (k:Nat),(fL row v i k xs).length=xs.length
 | [],_=>rfl
 | x::xs,k=>by simp [fL,CH row v i xs (k+1)]
section
variable {n:Nat} {rows:List R} (f:Fl) (t:TL)
theorem Sj{m mr ml:Nat}(K:cF n m t)(Q:n<=12)(hm:m<=40){i v b:Nat}(hi:i < m)(hv:v < n+m)(hb:t.af[i]? =some b)(row:List Nm)(hrl:row.length=n+m)
  (hr:∀x∈row,QN mr x) (P:∀x∈t.aj,∀y∈x,QN ml y) (M:f.eg=false->t.aw.length=n+m/\∀y∈t.aw,QN ml y) (hs:ml+ (ml+mr)+1<=6300):
  ∀(xs a:List (List Nm)) (k:Nat),a.length=k->a.length+xs.length=m->(∀x∈xs,x.length=n+m/\∀y∈x,QN ml y)->
  Or s9 [r0,I (i:Int),AV.ref (Id.c 6) 0,I (b:Int),AV.ref (Id.c 7) 0,AV.fn 69 [] [AV.ref (Id.c 6) 0,AV.ref (Id.c 7) 0],I (m:Int),I (k:Int)]
   (S1 n rows f ⟨t.af,t.mp,a++xs,t.val,t.aw⟩ ++ [aa.box [I (v:Int)],aa.box [AV.own (Id.c 8)],aa.sl false 4 false (aQ row)])=
   some (fi n rows f ⟨t.af.set i v,jb v i (kJ b t.mp),(a++fL row v i k xs).set i row,t.val,if f.eg then t.aw else ji row v t.aw⟩):=by
 intro xs;have O:=K.b;induction xs with
 | nil=>
  intro a k w g j;simp only [T6,VR] at g;have h1:¬(k:Int) < (m:Int):=by omega
  have p: 0<=(i:Int)/\(i:Int) < (a.length:Int):=by omega
  have q: 0<=(i:Int)/\(i:Int) < (t.af.length:Int):=by omega
  have d:=kQ (aj:=a) (i:=i) (by omega);have kb:=Mp (l:=t.af) (i:=i) (by omega) v;have h:((i:Nat):Int).toNat=i:=by omega
  rw [h] at d kb;have C:=Kj (bE 0 a) i a.length [T.aC] (false,aQ row) (cu _ _);have E:=Mr f.ec a i a.length row;have e:fL row v i k []= []:=rfl;rw [dJ,e,T7];refine an ?_;simp only [S7,S8];rw [AY];cases F:f.eg
  .obtain⟨gl,gq⟩:=M F;have B:=JV (e0:=false) (e3:=false) v row t.aw hr gq hs (by omega) (by omega) (by omega);simp only [ak,↓reduceIte,Int.reduceBEq,Int.reduceEq,GD,h1,p,q,and_self,cB,dc,h,d,kb,B,S9,Ax,yy,C,E,cA];rfl
  .simp only [ak,↓reduceIte,Int.reduceBEq,Int.reduceEq,GD,h1,p,q,and_self,cB,dc,h,d,kb,S9,Ax,yy,C,E,cA]
   try rfl
 | cons x xs L=>
  intro a k w g j;simp only [Tr] at g;have h1:(k:Int) < (m:Int):=by omega
  have G: 0<=(k:Int)/\(k:Int) < ((a++x::xs).length:Int):=by simp;omega
  have D:au (a++x::xs) k=x:=by unfold au;rw [SV,T4 (by omega),w,VF];rfl
  have d:=kQ (aj:=a++x::xs) (i:=k) (by simp;omega);have o:=jx (aj:=a++x::xs) (i:=k) (by simp;omega);rw [D] at d o;obtain⟨S,N⟩:=j x SW;by_cases r:k=i
  .subst r;have:=L (a++ [x]) (k+1) (by simp;omega) (by simp;omega) (λu A=>j u (SY _ A));simp only [TN,S7,S8] at this;have e:fL row v k k (x::xs)=x::fL row v k (k+1) xs:=by rw [fL,if_pos rfl]
   rw [e];refine an ?_;simp only [S7,S8];rw [AY];simp only [ak,↓reduceIte,Int.reduceBEq,Int.reduceEq,GD,h1,next k (by omega)];exact this
  .have z:¬(k:Int)= (i:Int):=by omega
   have B:=JV (e0:=false) (e3:=false) v row x hr N hs (by omega) (by omega) (by omega);have s:=QW (aj:=a++x::xs) (i:=k) (ji row v x) (by simp;omega);have J:=Pf (aj:=a++x::xs) (i:=k) (by simp;omega);rw [qm _ _ _ _ _ w] at s;have:=L (a++ [ji row v x]) (k+1) (by simp;omega) (by simp;omega) (λu A=>j u (SY _ A));simp only [TN,S7,S8] at this;have e:fL row v i k (x::xs)=ji row v x::fL row v i (k+1) xs:=by rw [fL,if_neg r]
   have H:(a++ji row v x::xs).length= (a++x::xs).length:=by simp
   rw [e];refine an ?_;simp only [S7,S8];rw [AY];simp only [ak,↓reduceIte,Int.reduceBEq,Int.reduceEq,GD,h1,z,G,and_self,cB,d,o,B,S9,J,s,next k (by omega)];rw [H] at this;exact this
theorem Sk{m mc:Nat}(d:cF n m t)(L:n<=12)(hm:m<=40){i v b:Nat}(hi:i < m)(hv:v < n+m)(hb:t.af[i]? =some b)
  (e:∀x∈t.aj,∀y∈x,QN mc y) (s:nv (ao (au t.aj i) v)≠0) (K:f.eg=false->t.aw.length=n+m/\∀y∈t.aw,QN mc y) (hs:mc+ (mc+ (2 * mc+10))+1<=6300):
  ∀(xs:List Nm) (k:Nat),(au t.aj i).drop k=xs->
  Or wD [r0,I (i:Int),AV.ref (Id.c 6) 0,I (b:Int),AV.ref (Id.c 7) 0,AV.ref (Id.c 8) 0,AV.row (Id.c 3) i,I ((au t.aj i).length:Int),I (k:Int)]
   (S1 n rows f t++ [aa.box [I (v:Int)],gN (ao (au t.aj i) v),aa.box [AV.own (Id.c 9)],aa.sl false 4 false (aQ (((au t.aj i).take k).map (λy=>ng (ov y (ao (au t.aj i) v)))++List.replicate xs.length none))])=
   some (fi n rows f (eX i v b (ct (au t.aj i) v b) f.eg t)):=by
 have j:=d.c;have M:=d.row hi;have S:b < n+m:=d.lt b (SX hb);have A:=jx (aj:=t.aj) (i:=i) (by omega);have g:au t.aj i∈t.aj:=SX (iQ (by omega));have w:QN mc (ao (au t.aj i) v):=e _ g _ (SX (gg (by omega)));intro xs;induction xs with
 | nil=>
  intro k h;have h1:¬(k:Int) < ((au t.aj i).length:Int):=by have:=bF h;omega
  have G:(au t.aj i).take k=au t.aj i:=Um (by have:=bF h;omega);have V:((au t.aj i).map (λy=>ng (ov y (ao (au t.aj i) v)))).length=n+m:=by simp;omega
  have H: 0<=(v:Int)/\(v:Int) < (((au t.aj i).map (λy=>ng (ov y (ao (au t.aj i) v)))).length:Int):=by omega
  have z: 0<=(b:Int)/\(b:Int) < ((((au t.aj i).map (λy=>ng (ov y (ao (au t.aj i) v)))).set v none).length:Int):=by rw [TT];omega
  have u:=fy 1 (by omega);have q1:QN 2 (iN 1):=dS (by decide);obtain⟨k2,O⟩:=mH q1 w (by omega) s;have p:=jQ (l:=(au t.aj i).map (λy=>ng (ov y (ao (au t.aj i) v)))) (i:=v) (by omega) none;rw [show [tb (decide ((nv none).num < 0)),T.str (bC (dz (nv none).num)),tb (nc none),T.str (nd none)]= [tb false,T.str (ByteArray.mk #[]),tb false,T.str (ByteArray.mk #[])] from rfl] at p;have Q:=jQ (l:=((au t.aj i).map (λy=>ng (ov y (ao (au t.aj i) v)))).set v none) (i:=b) (by rw [TT];omega) (ov (iN 1) (ao (au t.aj i) v));have E:∀x∈ct (au t.aj i) v b,QN (2 * mc+10) x:=by
   intro x a;unfold ct at a;rcases Ty a with a | a
   .rcases Ty a with a | a
    .obtain⟨y,hy,rfl⟩:=Tw.1 a;exact((mH (e _ g y hy) w (by omega) s).2).neg.mono (by omega)
    .subst a;exact im _
   .subst a;exact O.mono (by omega)
  have D:(ct (au t.aj i) v b).length=n+m:=by unfold ct;simp;omega
  have:=Sj (n:=n) (rows:=rows) (ml:=mc) f t d L hm hi hv hb (ct (au t.aj i) v b) D E e K hs t.aj [] 0 rfl (by simpa using j) (λx a=>⟨d.r x a,e x a⟩);simp only [S7,S8] at this;rw [G];simp only [T6,Vr,T7];refine an ?_;simp only [S7,S8];rw [FY];simp only [ak,↓reduceIte,Int.reduceBEq,Int.reduceEq,GD,h1,H,z,and_self,bA,p,Q,u,k2,cB,j];rw [j] at this;exact this
 | cons x xs N=>
  intro k h;obtain⟨q,W,J⟩:=bz h;have h1:(k:Int) < ((au t.aj i).length:Int):=by omega
  have B: 0<=(k:Int):=by omega
  have o:(((au t.aj i).take k).map (λy=>ng (ov y (ao (au t.aj i) v)))).length=k:=by simp;omega
  have U:(((au t.aj i).take k).map (λy=>ng (ov y (ao (au t.aj i) v)))++List.replicate (x::xs).length none).length= (au t.aj i).length:=by rw [Uh,o,UD];have:=congrArg List.length h;simp only [UK] at this;omega
  have C:(k:Int) < ((((au t.aj i).take k).map (λy=>ng (ov y (ao (au t.aj i) v)))++List.replicate (x::xs).length none).length:Int):=by omega
  have P:=e _ g x (SX q);obtain⟨u,q1⟩:=mH P w (by omega) s;have k2:=B6 (ov x (ao (au t.aj i) v));have p:=jQ (l:=((au t.aj i).take k).map (λy=>ng (ov y (ao (au t.aj i) v)))++List.replicate (x::xs).length none) (i:=k) (by omega) (ng (ov x (ao (au t.aj i) v)))
  have F:(((au t.aj i).take k).map (λy=>ng (ov y (ao (au t.aj i) v)))++List.replicate (x::xs).length none).set k (ng (ov x (ao (au t.aj i) v)))=
    ((au t.aj i).take (k+1)).map (λy=>ng (ov y (ao (au t.aj i) v)))++List.replicate xs.length none:=by
   rw [Tr,TX,qm _ _ _ _ _ o,U7,q,US];simp
  rw [F] at p;have:=N (k+1) J;simp only [S7,S8] at this;refine an ?_;simp only [S7,S8];rw [FY];simp only [ak,↓reduceIte,Int.reduceBEq,Int.reduceEq,GD,h1,B,C,and_self,A,bA,cg q,u,k2,p,next k (by omega)];exact this
theorem pW{k:Nat}(h:k<=100000):cr (k:Int) (k:Int)=some ():=by unfold cr;rw [if_pos ⟨by omega,by omega,by unfold gf;omega⟩]
theorem sH{m mc:Nat}(a:cF n m t)(w:n<=12)(hm:m<=40){i v b:Nat}(hi:i < m)(hv:v < n+m)(hb:t.af[i]? =some b)
  (s:∀x∈t.aj,∀y∈x,QN mc y) (r:nv (ao (au t.aj i) v)≠0) (u:f.eg=false->t.aw.length=n+m/\∀y∈t.aw,QN mc y) (hs:mc+ (mc+ (2 * mc+10))+1<=6300):
  Or (.call 45) [r0,I (i:Int),I (v:Int)] (S1 n rows f t)=some (fi n rows f (eX i v b (ct (au t.aj i) v b) f.eg t)):=by
 have B:=a.c;have A:=a.b;have z:=a.row hi;have h: 0<=(i:Int)/\(i:Int) < (t.af.length:Int):=by omega
 have j: 0<=(i:Int)/\(i:Int) < (t.aj.length:Int):=by omega
 have q: 0<=(v:Int)/\(v:Int) < ((au t.aj i).length:Int):=by omega
 have e:=kQ (aj:=t.aj) (i:=i) (by omega);have d:=jx (aj:=t.aj) (i:=i) (by omega);have g:=cg (gg (l:=au t.aj i) (i:=v) (by omega));have o:=pW (k:=(au t.aj i).length) (by omega);have:=Sk (n:=n) (rows:=rows) f t a w hm hi hv hb s r u hs (au t.aj i) 0 rfl;have p:(((au t.aj i).length:Nat):Int).toNat= (au t.aj i).length:=by omega
 simp only [S7,S8,Vs,VA] at this;refine an ?_;rw [M4];simp only [ak,↓reduceIte,Int.reduceBEq,Int.reduceEq,GD,h,j,q,and_self,dc,jv hb,cB,e,d,bA,g,o,p,rz];exact this
end
open Go Go.Aev Go.Aev.Gen Go.Aev.Wd
def fK(n:Nat)(s:Nm):List Nm->Nat->List Nm->List Nm
 | [],_,a=>a
 | x::xs,v,a=>if nv x=0 then fK n s xs (v+1) a else fK n s xs (v+1) (a.set (v - n) (ng (tm x s)))
def iE(n m:Nat)(ai:Int)(b:Nat)(row:List Nm):List Nm:=fK n (iN (-ai)) row 0 ((List.replicate m none).set (b - n) (iN (-ai)))
theorem Ct(n:Nat)(s:Nm):∀(xs:List Nm) (v:Nat) (a:List Nm),(fK n s xs v a).length=a.length
 | [],_,_=>rfl
 | x::xs,v,a=>by
  rw [fK];split
  .exact Ct n s xs _ _
  .rw [Ct n s xs];simp
section
variable {n:Nat} {rows:List R} (f:Fl) (t:TL)
theorem Sh{mc:Nat}(o:cF n rows.length t)(L:n<=12)(hm:rows.length<=40){i:Nat}(hi:i < rows.length){s:Nm}(w:QN 2 s)
  (B:∀y∈au t.aj i,QN mc y) (hz:∀v,v < n->nv (ao (au t.aj i) v)=0) (hs:mc+2<=6300):
  ∀(xs:List Nm) (k:Nat) (a:List Nm),(au t.aj i).drop k=xs->a.length=rows.length->
  Or sZ [r0,AV.own (Id.c 6),AV.ref (Id.c 7) 0,AV.row (Id.c 3) i,I ((au t.aj i).length:Int),I (k:Int)] (S1 n rows f t++ [aa.sl false 4 false (aQ a),gN s])=
   some (T.ae 4 false (aQ (fK n s xs k a))::fi n rows f t):=by
 have J:=o.c;have D:=o.row hi;have j:=jx (aj:=t.aj) (i:=i) (by omega);intro xs;induction xs with
 | nil=>
  intro k a h p;have h1:¬(k:Int) < ((au t.aj i).length:Int):=by have:=bF h;omega
  rw [fK,dJ];refine an ?_;simp only [S7,S8];rw [AX];simp only [ak,↓reduceIte,Int.reduceBEq,Int.reduceEq,GD,h1,cu,cA]
 | cons x xs z=>
  intro k a h p;obtain⟨g,K,q⟩:=bz h;have h1:(k:Int) < ((au t.aj i).length:Int):=by omega
  have m: 0<=(k:Int):=by omega
  have ks:=lf x;have H:=B x (SX g);by_cases b:nv x=0
  .have e:=(fO (nv x)).2 b;have d:fK n s (x::xs) k a=fK n s xs (k+1) a:=by rw [fK,if_pos b]
   have:=z (k+1) a q p;simp only [S7,S8] at this;rw [d];refine an ?_;simp only [S7,S8];rw [AX];simp only [ak,↓reduceIte,Int.reduceBEq,Int.reduceEq,GD,h1,m,and_self,j,bA,cg g,ks,e,next k (by omega)];exact this
  .have e:¬(nv x).num.sign=0:=λA=>b ((fO _).1 A);have d:fK n s (x::xs) k a=fK n s xs (k+1) (a.set (k - n) (ng (tm x s))):=by rw [fK,if_neg b]
   have r:¬k < n:=λC=>b (by
    have:=hz k C;unfold ao at this;rw [SV,g] at this;exact this)
   have E:=uS r (by omega);have F:=kT H w hs;have k2:=B6 (tm x s);have u: 0<=((k - n:Nat):Int)/\((k - n:Nat):Int) < (a.length:Int):=by omega
   have G:=jQ (l:=a) (i:=k - n) (by omega) (ng (tm x s));have:=z (k+1) (a.set (k - n) (ng (tm x s))) q (by rw [TT];exact p);simp only [S7,S8] at this;rw [d];refine an ?_;simp only [S7,S8];rw [AX];simp only [ak,↓reduceIte,Int.reduceBEq,Int.reduceEq,GD,h1,m,and_self,j,bA,cg g,ks,e,E,u,F,k2,G,next k (by omega)];exact this
theorem J2{mc:Nat}(a:cF n rows.length t)(w:n<=12)(hm:rows.length<=40){i b:Nat}(hi:i < rows.length)(hb:t.af[i]? =some b)(C:n<=b){ai:Int}(q:ai=1\/ai= -1)
  (u:∀y∈au t.aj i,QN mc y) (hz:∀v,v < n->nv (ao (au t.aj i) v)=0) (hs:mc+2<=6300):
  Or (.call 38) [r0,I (i:Int),I ai] (S1 n rows f t)=some (T.ae 4 false (aQ (iE n rows.length ai b (au t.aj i)))::fi n rows f t):=by
 have D:=a.c;have B:=a.b;have A:=a.lt b (SX hb);have d:=pW (k:=(cV rows).length) (by rw [bB];omega);rw [bB] at d;have s:i64.wrap (0 - ai)= -ai:=by rw [Go.Aev.wr (by omega)];omega
 have x:=fy (-ai) (by omega);have h: 0<=(i:Int)/\(i:Int) < (t.af.length:Int):=by omega
 have j: 0<=(i:Int)/\(i:Int) < (t.aj.length:Int):=by omega
 have r:=uS (v:=b) (n:=n) (by omega) (by omega);have p:((rows.length:Nat):Int).toNat=rows.length:=by omega
 have m: 0<=((b - n:Nat):Int)/\((b - n:Nat):Int) < ((List.replicate rows.length (none:Nm)).length:Int):=by rw [UD];omega
 have z:=jQ (l:=List.replicate rows.length none) (i:=b - n) (by rw [UD];omega) (iN (-ai));have g:=kQ (aj:=t.aj) (i:=i) (by omega);have e:=jx (aj:=t.aj) (i:=i) (by omega);have o:QN 2 (iN (-ai)):=by rcases q with rfl | rfl <;> exact dS (by decide)
 have:=Sh (n:=n) (rows:=rows) f t a w hm hi o u hz hs (au t.aj i) 0 ((List.replicate rows.length none).set (b - n) (iN (-ai))) rfl (by simp);simp only [S7,S8] at this;refine an ?_;rw [MW];simp only [ak,↓reduceIte,Int.reduceBEq,Int.reduceEq,GD,bB,d,s,x,h,j,and_self,dc,jv hb,r,p,rz,bA,m,z,cB,g,e];exact this
end
def aT(n:Nat)(rows:List R)(val:List Vl)(ai:Int):List Nm->Nat->Option Nat
 | [],_=>none
 | x::xs,v=>if nv x≠0/\eT n rows val v (ai * (nv x).num.sign)=true then some v else aT n rows val ai xs (v+1)
def pc(n:Nat)(rows:List R)(b:Nat)(ai:Int)(i v:Nat)(t:TL):Vl:=fg (nT (if ai > 0 then hJ n rows b else bu n rows b) (aG t.val b)) (ov (iN 1) (ao (au t.aj i) v))
def gv(n:Nat)(rows:List R)(eg:Bool)(b:Nat)(ai:Int)(i v:Nat)(t:TL):TL:=
 eX i v b (ct (au t.aj i) v b) eg (dG v (pc n rows b ai i v t) t)
theorem pa(q:Rat):q.num.sign=1\/q.num.sign= -1\/q.num.sign=0:=by
 rcases Vp q.num 0 with h | h | h
 .exact .inr (.inl (Up h))
 .exact .inr (.inr (by rw [h];rfl))
 .exact .inl (Us h)
theorem cF.mv{n m:Nat}{t:TL}(h:cF n m t)(v:Nat)(w:Vl):cF n m (dG v w t) where
 b:=h.b
 c:=h.c
 r:=h.r
 v:=by show(gI _ _ _ _ _).length=_;rw [Hz,TT];exact h.v
 lt:=h.lt
 nd:=h.nd
section
variable {n:Nat} {rows:List R} (f:Fl) (t:TL)
set_option maxRecDepth 20000 in
theorem RV{mv mc:Nat}(sz:Sz n rows)(l:cF n rows.length t){i b:Nat}(hi:i < rows.length)(hb:t.af[i]? =some b)(hbn:n<=b){ai:Int}(Z:ai=1\/ai= -1)(hge:f.eg=true)
  (K:∀u,u < n+rows.length->VB mv (aG t.val u)) (X:∀x∈t.aj,∀y∈x,QN mc y) (hzb:∀v,nv (ao (au t.aj i) v)≠0->v∉t.af)
  (h1s: 20<=mv) (h2s: 3 * mv+2 * mc+10<=6200) (h3s: 4 * mc+20<=6200) (p:Int)
  (hno:aT n rows t.val ai (au t.aj i) 0=none->∀v,v < n->nv (ao (au t.aj i) v)=0) {res:List T}
  (d:(match aT n rows t.val ai (au t.aj i) 0 with
   | none=>some (T.ae 4 false (aQ (iE n rows.length ai b (au t.aj i)))::tb true::fi n rows f t)
   | some v=>Or pA [r0,I p] (S2 n rows f (gv n rows f.eg b ai i v t)))=some res):
  ∀(xs:List Nm) (k:Nat),(au t.aj i).drop k=xs->aT n rows t.val ai xs k=aT n rows t.val ai (au t.aj i) 0->
  Or oc [r0,I p,I (b:Int),I ai,I (i:Int),I (-1),AV.row (Id.c 3) i,I ((au t.aj i).length:Int),I (k:Int)] (S1 n rows f t)=some res:=by
 have hn:=sz.n;have hm:=sz.m;have hcl:=l.c;have hvl:=l.v;have hrow:=l.row hi;have q:=l.lt b (SX hb);have O:=jx (aj:=t.aj) (i:=i) (by omega);have hci:au t.aj i∈t.aj:=SX (iQ (by omega));intro xs;induction xs with
 | nil=>
  intro k h Y;have h1:¬(k:Int) < ((au t.aj i).length:Int):=by have:=bF h;omega
  have N:aT n rows t.val ai (au t.aj i) 0=none:=by rw [<-Y];rfl
  have k1:=J2 (n:=n) (rows:=rows) f t l hn hm hi hb hbn Z (X _ hci) (hno N) (by omega);rw [N] at d;simp only at d;rw [dJ] at k1 d;rw [<-d];refine an ?_;rw [tL];simp only [ak,↓reduceIte,Int.reduceBEq,Int.reduceEq,GD,dB,h1,k1,dA,cZ,S9,cu,cA]
  try rfl
 | cons x xs ih=>
  intro k h Y;obtain⟨S,g2,g3⟩:=bz h;have h1:(k:Int) < ((au t.aj i).length:Int):=by omega
  have P: 0<=(k:Int):=by omega
  have ks:=lf x;have qx:=X _ hci x (SX S);by_cases C:nv x=0
  .have z:=(fO (nv x)).2 C;have D:aT n rows t.val ai (x::xs) k=aT n rows t.val ai xs (k+1):=by rw [aT,if_neg (λs=>s.1 C)]
   have M:(!((nv x).num.sign==0))=false:=by rw [z];rfl
   have:=ih (k+1) g3 (by rw [<-D];exact Y);refine an ?_;rw [tL];simp only [bD,ak,↓reduceIte,Int.reduceBEq,Int.reduceEq,GD,h1,P,and_self,O,bA,cg S,ks,z,next k (by omega)];exact this
  .have z:¬(nv x).num.sign=0:=λs=>C ((fO _).1 s);have M:(!((nv x).num.sign==0))=true:=by simpa using z
   have hws:i64.wrap (ai * (nv x).num.sign)=ai * (nv x).num.sign:=by refine Go.Aev.wr ?_;rcases Z with rfl | rfl <;> rcases pa (nv x) with e | e | e <;> rw [e] <;> omega
   have kc:=y7 sz f.er f.eb f.ev f.eg t.af t.val t.aw hvl K (by omega) (v:=k) (by omega) (ai * (nv x).num.sign);by_cases w:eT n rows t.val k (ai * (nv x).num.sign)=true
   .have D:aT n rows t.val ai (x::xs) k=some k:=by rw [aT,if_pos ⟨C,w⟩]
    have N:aT n rows t.val ai (au t.aj i) 0=some k:=by rw [<-Y,D]
    have E:ao (au t.aj i) k=x:=by unfold ao;rw [SV,S];rfl
    have hkb:=hzb k (by rw [E];exact C);have hk1:¬(k:Int) < 0:=by omega
    have V:=sF sz f.er f.eb f.ev f.eg t.af t.val t.aw q;have U:=uX sz f.er f.eb f.ev f.eg t.af t.val t.aw q;have hbv:=mz (mR (val:=t.val) (i:=b) (by omega));have hb1: 0<=(b:Int)/\(b:Int) < (t.val.length:Int):=by omega
    have hi2: 0<=(i:Int)/\(i:Int) < (t.aj.length:Int):=by omega
    have hgi:=kQ (aj:=t.aj) (i:=i) (by omega);have k32:=fy 1 (by omega);have q1:QN 2 (iN 1):=dS (by decide);obtain⟨k83,Q⟩:=mH q1 qx (by omega) C;have hcx:∀y∈t.aj,QB mc (nv (ao y k)):=λy hy=>X y hy _ (SX (gg (by rw [l.r y hy];omega)));rw [N] at d;simp only at d;rcases Z with hw | hw
    .subst hw;have qt:=uf sz q;have F:=uU qt (K b q) (by omega);have qs:=sB qt (K b q);have G:=pd (b:=ov (iN 1) x) qs Q (by omega);have qw:=nD (b:=ov (iN 1) x) qs Q;have B:=sG (n:=n) (rows:=rows) f t l (v:=k) (by omega) hm hkb qw hcx (a:=mv) (by omega) K;obtain⟨o,g⟩:∃o,o=dG k (fg (nT (hJ n rows b) (aG t.val b)) (ov (iN 1) x)) t:=⟨_,rfl⟩;have H:o.aj=t.aj:=by rw [g];rfl
     have J:o.af[i]? =some b:=by rw [g];exact hb
     rw [<-g] at B;have j:=sH (n:=n) (rows:=rows) f o (by rw [g];exact l.mv _ _) hn hm hi (v:=k) (by omega) J (by rw [H];exact X) (by rw [H,E];exact C) (λs=>by rw [hge] at s;cases s) (by omega);rw [H] at j;have A:gv n rows f.eg b 1 i k t=eX i k b (ct (au t.aj i) k b) f.eg o:=by unfold gv pc;rw [E,g];rfl
     generalize ct (au t.aj i) k b=L at j A;generalize hT2:eX i k b L f.eg o=t2 at j A;rw [dJ] at B j;rw [cC] at V U F G;simp only [S7,S8] at V U;have W:(1:Int) > 0:=by omega
     rw [A] at d;refine an ?_;rw [tL];simp only [ak,↓reduceIte,Int.reduceBEq,Int.reduceEq,GD,dB,bX,h1,P,hk1,hb1,hi2,and_self,O,hgi,bA,cD,cB,cg S,hbv,ks,z,M,hws,kc,w,V,U,F,k32,k83,G,B,j,W,dA,cZ,S9];exact d
    .subst hw;have qt:=qz sz q;have F:=uU qt (K b q) (by omega);have qs:=sB qt (K b q);have G:=pd (b:=ov (iN 1) x) qs Q (by omega);have qw:=nD (b:=ov (iN 1) x) qs Q;have B:=sG (n:=n) (rows:=rows) f t l (v:=k) (by omega) hm hkb qw hcx (a:=mv) (by omega) K;obtain⟨o,g⟩:∃o,o=dG k (fg (nT (bu n rows b) (aG t.val b)) (ov (iN 1) x)) t:=⟨_,rfl⟩;have H:o.aj=t.aj:=by rw [g];rfl
     have J:o.af[i]? =some b:=by rw [g];exact hb
     rw [<-g] at B;have j:=sH (n:=n) (rows:=rows) f o (by rw [g];exact l.mv _ _) hn hm hi (v:=k) (by omega) J (by rw [H];exact X) (by rw [H,E];exact C) (λs=>by rw [hge] at s;cases s) (by omega);rw [H] at j;have A:gv n rows f.eg b (-1) i k t=eX i k b (ct (au t.aj i) k b) f.eg o:=by unfold gv pc;rw [E,g];rfl
     generalize ct (au t.aj i) k b=L at j A;generalize hT2:eX i k b L f.eg o=t2 at j A;rw [dJ] at B j;rw [cC] at V U F G;simp only [S7,S8] at V U;have W:¬(-1:Int) > 0:=by omega
     rw [A] at d;refine an ?_;rw [tL];simp only [ak,↓reduceIte,Int.reduceBEq,Int.reduceEq,GD,dB,bX,h1,P,hk1,hb1,hi2,and_self,O,hgi,bA,cD,cB,cg S,hbv,ks,z,M,hws,kc,w,V,U,F,k32,k83,G,B,j,W,dA,cZ,S9];exact d
   .have D:aT n rows t.val ai (x::xs) k=aT n rows t.val ai xs (k+1):=by rw [aT,if_neg (λs=>w s.2)]
    have hcan':eT n rows t.val k (ai * (nv x).num.sign)=false:=by simpa using w
    have:=ih (k+1) g3 (by rw [<-D];exact Y);refine an ?_;rw [tL];simp only [ak,↓reduceIte,Int.reduceBEq,Int.reduceEq,GD,h1,P,and_self,O,bA,cg S,ks,z,M,hws,kc,hcan',next k (by omega)];exact this
end
section
variable {n:Nat} {rows:List R} (f:Fl) (t:TL)
set_option maxRecDepth 20000 in
theorem RW{mv mc:Nat}(sz:Sz n rows)(l:cF n rows.length t){i b:Nat}(hi:i < rows.length)(hb:t.af[i]? =some b)(hbn:n<=b){ai:Int}(Z:ai=1\/ai= -1)(hge:f.eg=true)
  (K:∀u,u < n+rows.length->VB mv (aG t.val u)) (X:∀x∈t.aj,∀y∈x,QN mc y) (hzb:∀v,nv (ao (au t.aj i) v)≠0->v∉t.af)
  (h1s: 20<=mv) (h2s: 3 * mv+2 * mc+10<=6200) (h3s: 4 * mc+20<=6200) (p:Int)
  (hno:aT n rows t.val ai (au t.aj i) 0=none->∀v,v < n->nv (ao (au t.aj i) v)=0) {res:List T}
  (d:(match aT n rows t.val ai (au t.aj i) 0 with
   | none=>some (T.ae 4 false (aQ (iE n rows.length ai b (au t.aj i)))::tb true::fi n rows f t)
   | some v=>Or pA [r0,I p] (S2 n rows f (gv n rows f.eg b ai i v t)))=some res):
  ∀(xs:List Nm) (k:Nat),(au t.aj i).drop k=xs->aT n rows t.val ai xs k=aT n rows t.val ai (au t.aj i) 0->
  Or oc [r0,I p,I (b:Int),I ai,I (i:Int),I (-1),AV.row (Id.c 6) i,I ((au t.aj i).length:Int),I (k:Int)] (S2 n rows f t)=some res:=by
 have hn:=sz.n;have hm:=sz.m;have hcl:=l.c;have hvl:=l.v;have hrow:=l.row hi;have q:=l.lt b (SX hb);have O:=jx (aj:=t.aj) (i:=i) (by omega);have hci:au t.aj i∈t.aj:=SX (iQ (by omega));intro xs;induction xs with
 | nil=>
  intro k h Y;have h1:¬(k:Int) < ((au t.aj i).length:Int):=by have:=bF h;omega
  have N:aT n rows t.val ai (au t.aj i) 0=none:=by rw [<-Y];rfl
  have k1:=J2 (n:=n) (rows:=rows) f t l hn hm hi hb hbn Z (X _ hci) (hno N) (by omega);rw [N] at d;simp only at d;rw [dJ] at k1 d;rw [<-d];refine an ?_;rw [tM];simp only [ak,↓reduceIte,Int.reduceBEq,Int.reduceEq,GD,dB,h1,k1,dA,cZ,S9,cu,cA]
  try rfl
 | cons x xs ih=>
  intro k h Y;obtain⟨S,g2,g3⟩:=bz h;have h1:(k:Int) < ((au t.aj i).length:Int):=by omega
  have P: 0<=(k:Int):=by omega
  have ks:=lf x;have qx:=X _ hci x (SX S);by_cases C:nv x=0
  .have z:=(fO (nv x)).2 C;have D:aT n rows t.val ai (x::xs) k=aT n rows t.val ai xs (k+1):=by rw [aT,if_neg (λs=>s.1 C)]
   have M:(!((nv x).num.sign==0))=false:=by rw [z];rfl
   have:=ih (k+1) g3 (by rw [<-D];exact Y);refine an ?_;rw [tM];simp only [bD,ak,↓reduceIte,Int.reduceBEq,Int.reduceEq,GD,h1,P,and_self,O,bA,cg S,ks,z,next k (by omega)];exact this
  .have z:¬(nv x).num.sign=0:=λs=>C ((fO _).1 s);have M:(!((nv x).num.sign==0))=true:=by simpa using z
   have hws:i64.wrap (ai * (nv x).num.sign)=ai * (nv x).num.sign:=by refine Go.Aev.wr ?_;rcases Z with rfl | rfl <;> rcases pa (nv x) with e | e | e <;> rw [e] <;> omega
   have kc:=y7 sz f.er f.eb f.ev f.eg t.af t.val t.aw hvl K (by omega) (v:=k) (by omega) (ai * (nv x).num.sign);by_cases w:eT n rows t.val k (ai * (nv x).num.sign)=true
   .have D:aT n rows t.val ai (x::xs) k=some k:=by rw [aT,if_pos ⟨C,w⟩]
    have N:aT n rows t.val ai (au t.aj i) 0=some k:=by rw [<-Y,D]
    have E:ao (au t.aj i) k=x:=by unfold ao;rw [SV,S];rfl
    have hkb:=hzb k (by rw [E];exact C);have hk1:¬(k:Int) < 0:=by omega
    have V:=sF sz f.er f.eb f.ev f.eg t.af t.val t.aw q;have U:=uX sz f.er f.eb f.ev f.eg t.af t.val t.aw q;have hbv:=mz (mR (val:=t.val) (i:=b) (by omega));have hb1: 0<=(b:Int)/\(b:Int) < (t.val.length:Int):=by omega
    have hi2: 0<=(i:Int)/\(i:Int) < (t.aj.length:Int):=by omega
    have hgi:=kQ (aj:=t.aj) (i:=i) (by omega);have k32:=fy 1 (by omega);have q1:QN 2 (iN 1):=dS (by decide);obtain⟨k83,Q⟩:=mH q1 qx (by omega) C;have hcx:∀y∈t.aj,QB mc (nv (ao y k)):=λy hy=>X y hy _ (SX (gg (by rw [l.r y hy];omega)));rw [N] at d;simp only at d;rcases Z with hw | hw
    .subst hw;have qt:=uf sz q;have F:=uU qt (K b q) (by omega);have qs:=sB qt (K b q);have G:=pd (b:=ov (iN 1) x) qs Q (by omega);have qw:=nD (b:=ov (iN 1) x) qs Q;have B:=sG (n:=n) (rows:=rows) f t l (v:=k) (by omega) hm hkb qw hcx (a:=mv) (by omega) K;obtain⟨o,g⟩:∃o,o=dG k (fg (nT (hJ n rows b) (aG t.val b)) (ov (iN 1) x)) t:=⟨_,rfl⟩;have H:o.aj=t.aj:=by rw [g];rfl
     have J:o.af[i]? =some b:=by rw [g];exact hb
     rw [<-g] at B;have j:=sH (n:=n) (rows:=rows) f o (by rw [g];exact l.mv _ _) hn hm hi (v:=k) (by omega) J (by rw [H];exact X) (by rw [H,E];exact C) (λs=>by rw [hge] at s;cases s) (by omega);rw [H] at j;have A:gv n rows f.eg b 1 i k t=eX i k b (ct (au t.aj i) k b) f.eg o:=by unfold gv pc;rw [E,g];rfl
     generalize ct (au t.aj i) k b=L at j A;generalize hT2:eX i k b L f.eg o=t2 at j A;rw [dJ] at B j;rw [cC] at V U F G;simp only [S7,S8] at V U;have W:(1:Int) > 0:=by omega
     rw [A] at d;refine an ?_;rw [tM];simp only [ak,↓reduceIte,Int.reduceBEq,Int.reduceEq,GD,dB,bX,h1,P,hk1,hb1,hi2,and_self,O,hgi,bA,cD,cB,cg S,hbv,ks,z,M,hws,kc,w,V,U,F,k32,k83,G,B,j,W,dA,cZ,S9];exact d
    .subst hw;have qt:=qz sz q;have F:=uU qt (K b q) (by omega);have qs:=sB qt (K b q);have G:=pd (b:=ov (iN 1) x) qs Q (by omega);have qw:=nD (b:=ov (iN 1) x) qs Q;have B:=sG (n:=n) (rows:=rows) f t l (v:=k) (by omega) hm hkb qw hcx (a:=mv) (by omega) K;obtain⟨o,g⟩:∃o,o=dG k (fg (nT (bu n rows b) (aG t.val b)) (ov (iN 1) x)) t:=⟨_,rfl⟩;have H:o.aj=t.aj:=by rw [g];rfl
     have J:o.af[i]? =some b:=by rw [g];exact hb
     rw [<-g] at B;have j:=sH (n:=n) (rows:=rows) f o (by rw [g];exact l.mv _ _) hn hm hi (v:=k) (by omega) J (by rw [H];exact X) (by rw [H,E];exact C) (λs=>by rw [hge] at s;cases s) (by omega);rw [H] at j;have A:gv n rows f.eg b (-1) i k t=eX i k b (ct (au t.aj i) k b) f.eg o:=by unfold gv pc;rw [E,g];rfl
     generalize ct (au t.aj i) k b=L at j A;generalize hT2:eX i k b L f.eg o=t2 at j A;rw [dJ] at B j;rw [cC] at V U F G;simp only [S7,S8] at V U;have W:¬(-1:Int) > 0:=by omega
     rw [A] at d;refine an ?_;rw [tM];simp only [ak,↓reduceIte,Int.reduceBEq,Int.reduceEq,GD,dB,bX,h1,P,hk1,hb1,hi2,and_self,O,hgi,bA,cD,cB,cg S,hbv,ks,z,M,hws,kc,w,V,U,F,k32,k83,G,B,j,W,dA,cZ,S9];exact d
   .have D:aT n rows t.val ai (x::xs) k=aT n rows t.val ai xs (k+1):=by rw [aT,if_neg (λs=>w s.2)]
    have hcan':eT n rows t.val k (ai * (nv x).num.sign)=false:=by simpa using w
    have:=ih (k+1) g3 (by rw [<-D];exact Y);refine an ?_;rw [tM];simp only [ak,↓reduceIte,Int.reduceBEq,Int.reduceEq,GD,h1,P,and_self,O,bA,cg S,ks,z,M,hws,kc,hcan',next k (by omega)];exact this
end
end Go.Aev.Wd.Lg
