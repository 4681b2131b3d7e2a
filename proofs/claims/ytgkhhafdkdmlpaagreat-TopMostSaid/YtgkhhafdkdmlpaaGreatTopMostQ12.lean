import Derived.Test.YtgkhhafdkdmlpaaGreatTopMostQ10
import Derived.Test.YtgkhhafdkdmlpaaGreatTopMostQ11
set_option linter.all false
namespace Go.Aev.Wd.Lg
open Go Go.Aev Go.Aev.Gen Go.Aev.Wd Go.IntKind
abbrev Vl:=Nm×Nm
abbrev EV(v:Vl):AV:=AV.agg [B (decide ((nv v.1).num < 0)),AV.t (T.str (bF (dz (nv v.1).num))),B (nc v.1),AV.t (T.str (nd v.1)),B (decide ((nv v.2).num < 0)),AV.t (T.str (bF (dz (nv v.2).num))),B (nc v.2),AV.t (T.str (nd v.2))]
def VC(v:Vl):List T:= [tb (decide ((nv v.1).num < 0)),T.str (bF (dz (nv v.1).num)),tb (nc v.1),T.str (nd v.1),tb (decide ((nv v.2).num < 0)),T.str (bF (dz (nv v.2).num)),tb (nc v.2),T.str (nd v.2)]
theorem cD(v:Vl):VC v= [tb (decide ((nv v.1).num < 0)),T.str (bF (dz (nv v.1).num)),tb (nc v.1),T.str (nd v.1),tb (decide ((nv v.2).num < 0)),T.str (bF (dz (nv v.2).num)),tb (nc v.2),T.str (nd v.2)]:=rfl
def dB(l:List Vl):List (List T):=l.map VC
theorem cJ(l:List Vl):(dB l).length=l.length:=by simp [dB]
theorem mS{l:List Vl}{i:Nat}{x:Vl}(h:l[i]? =some x):(dB l)[((i:Nat):Int).toNat]? =some [tb (decide ((nv x.1).num < 0)),T.str (bF (dz (nv x.1).num)),tb (nc x.1),T.str (nd x.1),tb (decide ((nv x.2).num < 0)),T.str (bF (dz (nv x.2).num)),tb (nc x.2),T.str (nd x.2)]:=by simp [dB,h,VC]
theorem EP{l:List Vl}{i:Nat}(hi:i < l.length)(x:Vl):bI ((i:Nat):Int).toNat 0 [tb (decide ((nv x.1).num < 0)),T.str (bF (dz (nv x.1).num)),tb (nc x.1),T.str (nd x.1),tb (decide ((nv x.2).num < 0)),T.str (bF (dz (nv x.2).num)),tb (nc x.2),T.str (nd x.2)] (dB l)=some (dB (l.set i x)):=by
 have h1:(dB l)[((i:Nat):Int).toNat]? =some (VC l[i]):=by simp [dB,hi]
 simp only [bI,h1];simp [bQ,dB,VC,Uk]
def cP(l:List Nat):List (List T):=l.map λ(v:Nat)=> [ti (v:Int)]
theorem cY(l:List Nat):(cP l).length=l.length:=by simp [cP]
theorem jg{l:List Nat}{i:Nat}{x:Nat}(h:l[i]? =some x):(cP l)[((i:Nat):Int).toNat]? =some [ti (x:Int)]:=by simp [cP,h]
theorem Lj{l:List Nat}{i:Nat}(hi:i < l.length)(x:Nat):bI ((i:Nat):Int).toNat 0 [ti (x:Int)] (cP l)=some (cP (l.set i x)):=by
 have h1:(cP l)[((i:Nat):Int).toNat]? =some [ti (l[i]:Int)]:=by simp [cP,hi]
 simp only [bI,h1];simp [bQ,cP,Uk]
theorem eI{a:Type}(x y z u v t w:a)(l:List a):(x::y::z::u::v::t::w::l).drop 7=l:=by cases l <;> rfl
theorem bW{a:Type}(x y z u v t w s:a)(l:List a):(x::y::z::u::v::t::w::s::l).drop 8=l:=by cases l <;> rfl
def VB(m:Nat)(v:Vl):Prop:=QB m (nv v.1)/\QB m (nv v.2)
theorem VB.mono{m k:Nat}{v:Vl}(h:VB m v)(a:m<=k):VB k v:=⟨h.1.mono a,h.2.mono a⟩
def jY(a b:Vl):Vl:=(some (nv a.1+nv b.1),some (nv a.2+nv b.2))
def nH(a b:Vl):Vl:=(some (nv a.1 - nv b.1),some (nv a.2 - nv b.2))
def fb(a:Vl)(k:Nm):Vl:=(some (nv a.1 * nv k),some (nv a.2 * nv k))
def dY(a b:Vl):Int:=if cq (nv a.1) (nv b.1)=0 then cq (nv a.2) (nv b.2) else cq (nv a.1) (nv b.1)
theorem IH{m k:Nat}{a b:Vl}(c:VB m a)(hb:VB k b)(h:m+k+1<=6300):Or (.call 72) [EV a,EV b] []=some (VC (jY a b)):=by have d:=yp c.1 hb.1 h;have k2:=yp c.2 hb.2 h;rw [rG] at d k2;rw [cD];refine ao ?_;rw [Ls];simp only [al,↓reduceIte,Int.reduceBEq,Int.reduceEq,GD,d,k2];rfl
theorem uC{m k:Nat}{a b:Vl}(c:VB m a)(hb:VB k b)(h:m+k+1<=6300):Or (.call 40) [EV a,EV b] []=some (VC (nH a b)):=by have d:=Cd c.1 hb.1 h;have k2:=Cd c.2 hb.2 h;rw [rG] at d k2;rw [cD];refine ao ?_;rw [LY];simp only [al,↓reduceIte,Int.reduceBEq,Int.reduceEq,GD,d,k2];rfl
theorem o4{m k:Nat}{a:Vl}{b:Nm}(c:VB m a)(hb:QB k (nv b))(h:m+k<=6300):Or (.call 41) [EV a,EN b] []=some (VC (fb a b)):=by have d:=Ce c.1 hb h;have k2:=Ce c.2 hb h;rw [rG] at d k2;rw [cD];refine ao ?_;rw [L0];simp only [al,↓reduceIte,Int.reduceBEq,Int.reduceEq,GD,d,k2];rfl
theorem uB{m k:Nat}{a b:Vl}(d:VB m a)(hb:VB k b)(h:m+k<=6300):Or (.call 69) [EV a,EV b] []=some [ti (dY a b)]:=by
 have e:=oZ d.1 hb.1 h;have k2:=oZ d.2 hb.2 h;refine ao ?_;rw [Lr];unfold dY;by_cases c:cq (nv a.1) (nv b.1)=0
 .simp only [al,↓reduceIte,Int.reduceBEq,Int.reduceEq,GD,e,k2,c]
 .simp only [al,↓reduceIte,Int.reduceBEq,Int.reduceEq,GD,e,k2,c]
abbrev TP(n:Nat)(er:Bool)(rows:List R)(eb:Bool)(af:List Nat)(ev:Bool)(val:List Vl)(eg:Bool)(ax:List Nm):T:=
 T.ptr [ti (n:Int),T.ae 3 er (bX rows),T.ae 1 eb (cP af),T.any,T.any,T.ae 8 ev (dB val),T.ae 4 eg (aO ax)]
structure Sz (n:Nat) (rows:List R):Prop where
 n:n<=12
 m:rows.length<=40
 tv:∀r∈rows, -1000000<=r.tv/\r.tv<=1000000
def aW(rows:List R)(i:Nat):R:=rows.getD i default
theorem oT{rows:List R}{i:Nat}(h:i < rows.length):rows[i]? =some (aW rows i):=by unfold aW;rw [Rr,Rv h];rfl
theorem gF{rows:List R}{i:Nat}(h:i < rows.length):aW rows i∈rows:=Rt (oT h)
def bJ(n:Nat)(rows:List R)(v:Nat):Vl:=if v < n then(none,none) else(some ((aW rows (v - n)).tv:Rat),if(aW rows (v - n)).kd=2 then some ((-1:Int):Rat) else none)
def eT(n:Nat)(rows:List R)(v:Nat):Bool:= !decide (v < n) && decide ((aW rows (v - n)).kd=3)
def gY(n:Nat)(rows:List R)(v:Nat):Vl:=if eT n rows v=true then(some ((aW rows (v - n)).tv:Rat),none) else(none,none)
theorem hY(m:Nat):QB m 0:=⟨by simp,by simpa using Vy⟩
theorem dP{m:Nat}{c:Int}(h:c.natAbs<=2 ^ m):QB m (c:Rat):=⟨h,Vy⟩
theorem p6{n:Nat}{rows:List R}(sz:Sz n rows){v:Nat}(hv:v < n+rows.length):VB 20 (bJ n rows v):=by
 unfold bJ;by_cases h:v < n
 .rw [if_pos h];exact⟨hY _,hY _⟩
 .rw [if_neg h];have:=sz.tv _ (gF (i:=v - n) (by omega));refine⟨dP (by omega), ?_⟩;dsimp only;split
  .exact dP (by decide)
  .exact hY _
theorem tK{n:Nat}{rows:List R}(sz:Sz n rows){v:Nat}(hv:v < n+rows.length):VB 20 (gY n rows v):=by
 unfold gY;by_cases h:eT n rows v=true
 .rw [if_pos h];have b:¬v < n:=λa=>by simp [eT,a] at h
  have:=sz.tv _ (gF (rows:=rows) (i:=v - n) (by omega));exact⟨dP (by omega),hY _⟩
 .rw [if_neg h];exact⟨hY _,hY _⟩
theorem uA{v n:Nat}(h:¬v < n)(hv:v<=1000):i64.wrap ((v:Int) - (n:Int))= ((v - n:Nat):Int):=by rw [Go.Aev.wr (by omega)];omega
section
variable {n:Nat} {rows:List R} (sz:Sz n rows) (er eb ev eg:Bool) (af:List Nat) (val:List Vl) (ax:List Nm)
include sz
theorem sa{v:Nat}(hv:v < n+rows.length):Or (.call 38) [AV.t (TP n er rows eb af ev val eg ax),I (v:Int)] []=some (VC (bJ n rows v)++ [tb (!decide (v < n))]):=by
 have g:=sz.n;have hm:=sz.m;refine ao ?_;rw [LW,cD];unfold bJ;by_cases h:v < n
 .have h1:(v:Int) < (n:Int):=by omega
  simp only [al,↓reduceIte,Int.reduceBEq,Int.reduceEq,GD,h,h1,decide_true];rfl
 .have h1:¬(v:Int) < (n:Int):=by omega
  have d:=uA h (by omega);have hi:v - n < rows.length:=by omega
  have c: 0<=((v - n:Nat):Int)/\((v - n:Nat):Int) < (rows.length:Int):=by omega
  have e:=sz.tv _ (gF hi);have a:=yo (aW rows (v - n)).tv (by omega);have k2:=yo (-1) (by omega);rw [rG] at a k2;by_cases b:(aW rows (v - n)).kd=2
  .simp only [al,↓reduceIte,Int.reduceBEq,Int.reduceEq,GD,h,h1,d,c,and_self,cu,gy (oT hi),a,k2,b,decide_false];rfl
  .simp only [al,↓reduceIte,Int.reduceBEq,Int.reduceEq,GD,h,h1,d,c,and_self,cu,gy (oT hi),a,k2,b,decide_false];rfl
theorem uF{v:Nat}(hv:v < n+rows.length):Or (.call 39) [AV.t (TP n er rows eb af ev val eg ax),I (v:Int)] []=some (VC (gY n rows v)++ [tb (eT n rows v)]):=by
 have i:=sz.n;have hm:=sz.m;refine ao ?_;rw [LX,cD];unfold gY eT;by_cases h:v < n
 .have h1:(v:Int) < (n:Int):=by omega
  simp only [cm,al,↓reduceIte,Int.reduceBEq,Int.reduceEq,GD,h,h1,decide_true];rfl
 .have h1:¬(v:Int) < (n:Int):=by omega
  have e:=uA h (by omega);have hi:v - n < rows.length:=by omega
  have d: 0<=((v - n:Nat):Int)/\((v - n:Nat):Int) < (rows.length:Int):=by omega
  have g:=sz.tv _ (gF hi);have b:=yo (aW rows (v - n)).tv (by omega);rw [rG] at b;by_cases a:(aW rows (v - n)).kd=3
  .simp only [al,↓reduceIte,Int.reduceBEq,Int.reduceEq,GD,h,h1,e,d,and_self,cu,gy (oT hi),b,a,decide_false,decide_true];rfl
  .have c:((aW rows (v - n)).kd==3)=false:=by simpa using a
   simp only [al,↓reduceIte,Int.reduceBEq,Int.reduceEq,GD,h,h1,e,d,and_self,cu,gy (oT hi),b,a,c,decide_false];rfl
def aH(val:List Vl)(v:Nat):Vl:=val.getD v (none,none)
omit sz in
theorem nK{val:List Vl}{i:Nat}(h:i < val.length):val[i]? =some (aH val i):=by unfold aH;rw [Rr,Rv h];rfl
def eP(n:Nat)(rows:List R)(val:List Vl)(v:Nat)(w:Int):Bool:=
 if w > 0 then decide (v < n) || decide (dY (aH val v) (bJ n rows v) < 0) else !eT n rows v || decide (dY (aH val v) (gY n rows v) > 0)
theorem yz{m:Nat}(k:val.length=n+rows.length)(hb:∀v,v < n+rows.length->VB m (aH val v))(hm:m<=6200){v:Nat}(hv:v < n+rows.length)(w:Int):
  Or (.call 36) [AV.t (TP n er rows eb af ev val eg ax),I (v:Int),I w] []=some [tb (eP n rows val v w)]:=by
 have b:=sa sz er eb ev eg af val ax hv;have k2:=uF sz er eb ev eg af val ax hv;have g:=uB (hb v hv) (p6 sz hv) (by omega);have j:=uB (hb v hv) (tK sz hv) (by omega);have e: 0<=(v:Int)/\(v:Int) < (val.length:Int):=by omega
 have d:=mS (nK (val:=val) (i:=v) (by omega));rw [cD] at b k2;simp only [Rx,Ry] at b k2;refine ao ?_;rw [LU];unfold eP;by_cases a:w > 0
 .by_cases h:v < n
  .simp only [cm,al,↓reduceIte,Int.reduceBEq,Int.reduceEq,GD,bW,a,b,h,decide_true,RH,RJ,if_true,VG]
   try rfl
  .simp only [al,↓reduceIte,Int.reduceBEq,Int.reduceEq,GD,bW,a,b,h,decide_false,e,and_self,cJ,d,g,if_true,Sx,RJ,RH]
 .cases c:eT n rows v
  .rw [c] at k2;simp only [cm,al,↓reduceIte,Int.reduceBEq,Int.reduceEq,GD,bW,a,k2,RH,RJ,VG]
   try rfl
  .rw [c] at k2;simp only [al,↓reduceIte,Int.reduceBEq,Int.reduceEq,GD,bW,a,k2,e,and_self,cJ,d,j,Sx,RJ,RH]
def cI(n:Nat)(rows:List R)(val:List Vl):List Nat->Int×Int->Int×Int
 | [],p=>p
 | b::r,p=>if p.1>=0/\(b:Int) > p.1 then cI n rows val r p else
  if eT n rows b=true/\dY (aH val b) (gY n rows b) < 0 then cI n rows val r (b,1) else
  if ¬b < n/\dY (aH val b) (bJ n rows b) > 0 then cI n rows val r (b, -1) else cI n rows val r p
theorem QI{m:Nat}(K:val.length=n+rows.length)(hb:∀v,v < n+rows.length->VB m (aH val v))(hm:m<=6200)(C:∀b∈af,b < n+rows.length)(H:af.length<=1000):
  ∀(a:List Nat) (i:Nat) (p:Int×Int),af.drop i=a->
  Or vH [AV.t (TP n er rows eb af ev val eg ax),I p.1,I p.2,AV.t (T.ae 1 eb (cP af)),I (af.length:Int),I (i:Int)] []=some [ti (cI n rows val a p).1,ti (cI n rows val a p).2]:=by
 intro a;induction a with
 | nil=>
  intro i p h;have h1:¬(i:Int) < (af.length:Int):=by have:=bP h;omega
  refine ao ?_;rw [oc];simp only [al,↓reduceIte,Int.reduceBEq,Int.reduceEq,GD,h1,cI]
 | cons b a B=>
  intro i p h;obtain⟨q,J,z⟩:=bG h;have h1:(i:Int) < (af.length:Int):=by omega
  have d: 0<=(i:Int):=by omega
  have o:=C b (Rt q);have r:=sa sz er eb ev eg af val ax o;have k2:=uF sz er eb ev eg af val ax o;have w:=uB (hb b o) (p6 sz o) (by omega);have x:=uB (hb b o) (tK sz o) (by omega);have u: 0<=(b:Int)/\(b:Int) < (val.length:Int):=by omega
  have s:=mS (nK (val:=val) (i:=b) (by omega));rw [cD] at r k2;simp only [Rx,Ry] at r k2;have y:=B (i+1) p z;have F:=B (i+1) ((b:Int),1) z;have G:=B (i+1) ((b:Int), -1) z;by_cases hs:p.1>=0/\(b:Int) > p.1
  .have D:=hs.1;have E:=hs.2;have c:cI n rows val (b::a) p=cI n rows val a p:=by rw [cI,if_pos hs]
   rw [c];refine ao ?_;rw [oc];simp only [al,↓reduceIte,Int.reduceBEq,Int.reduceEq,GD,h1,d,and_self,cY,jg q,D,E,decide_true,if_true,next i (by omega)];exact y
  .have l:(if p.1>=0 then decide ((b:Int) > p.1) else false)=false:=by
    by_cases A:p.1>=0
    .rw [if_pos A];exact decide_eq_false (λj=>hs ⟨A,j⟩)
    .rw [if_neg A]
   by_cases h:b < n
   .have e:eT n rows b=false:=by simp [eT,h]
    rw [e] at k2;have c:cI n rows val (b::a) p=cI n rows val a p:=by rw [cI,if_neg hs,if_neg (by rw [e];simp),if_neg (λj=>j.1 h)]
    rw [c];refine ao ?_;rw [oc];simp only [cm,al,↓reduceIte,Int.reduceBEq,Int.reduceEq,GD,bW,h1,d,u,and_self,cY,jg q,l,r,k2,h,decide_true,RH,cJ,s,RQ,next i (by omega)];exact y
   .cases e:eT n rows b
    .rw [e] at k2;by_cases g:dY (aH val b) (bJ n rows b) > 0
     .have c:cI n rows val (b::a) p=cI n rows val a ((b:Int), -1):=by
       rw [cI,if_neg hs,if_neg (by rw [e];simp),if_pos ⟨h,g⟩]
      rw [c];refine ao ?_;rw [oc];simp only [cm,al,↓reduceIte,Int.reduceBEq,Int.reduceEq,GD,bW,h1,d,u,and_self,cY,jg q,l,r,k2,h,decide_false,decide_true,RJ,cJ,s,RQ,w,g,next i (by omega)];exact G
     .have c:cI n rows val (b::a) p=cI n rows val a p:=by
       rw [cI,if_neg hs,if_neg (by rw [e];simp),if_neg (λj=>g j.2)]
      rw [c];refine ao ?_;rw [oc];simp only [cm,al,↓reduceIte,Int.reduceBEq,Int.reduceEq,GD,bW,h1,d,u,and_self,cY,jg q,l,r,k2,h,decide_false,decide_true,RJ,cJ,s,RQ,w,g,next i (by omega)];exact y
    .rw [e] at k2;by_cases k:dY (aH val b) (gY n rows b) < 0
     .have c:cI n rows val (b::a) p=cI n rows val a ((b:Int),1):=by
       rw [cI,if_neg hs,if_pos ⟨e,k⟩]
      rw [c];refine ao ?_;rw [oc];by_cases g:dY (aH val b) (bJ n rows b) > 0
      .simp only [al,↓reduceIte,Int.reduceBEq,Int.reduceEq,GD,bW,h1,d,u,and_self,cY,jg q,l,r,k2,h,decide_false,decide_true,RJ,cJ,s,w,x,g,k,next i (by omega)];exact F
      .simp only [al,↓reduceIte,Int.reduceBEq,Int.reduceEq,GD,bW,h1,d,u,and_self,cY,jg q,l,r,k2,h,decide_false,decide_true,RJ,cJ,s,w,x,g,k,next i (by omega)];exact F
     .by_cases g:dY (aH val b) (bJ n rows b) > 0
      .have c:cI n rows val (b::a) p=cI n rows val a ((b:Int), -1):=by
        rw [cI,if_neg hs,if_neg (λj=>k j.2),if_pos ⟨h,g⟩]
       rw [c];refine ao ?_;rw [oc];simp only [al,↓reduceIte,Int.reduceBEq,Int.reduceEq,GD,bW,h1,d,u,and_self,cY,jg q,l,r,k2,h,decide_false,decide_true,RJ,cJ,s,w,x,g,k,next i (by omega)];exact G
      .have c:cI n rows val (b::a) p=cI n rows val a p:=by
        rw [cI,if_neg hs,if_neg (λj=>k j.2),if_neg (λj=>g j.2)]
       rw [c];refine ao ?_;rw [oc];simp only [al,↓reduceIte,Int.reduceBEq,Int.reduceEq,GD,bW,h1,d,u,and_self,cY,jg q,l,r,k2,h,decide_false,decide_true,RJ,cJ,s,w,x,g,k,next i (by omega)];exact y
def ij(n:Nat)(rows:List R)(val:List Vl)(af:List Nat):Int×Int:=cI n rows val af (-1,0)
theorem IZ{m:Nat}(d:val.length=n+rows.length)(hb:∀v,v < n+rows.length->VB m (aH val v))(hm:m<=6200)(c:∀b∈af,b < n+rows.length)(a:af.length<=1000):
  Or (.call 35) [AV.t (TP n er rows eb af ev val eg ax)] []=some [ti (ij n rows val af).1,ti (ij n rows val af).2]:=by
 have:=QI sz er eb ev eg af val ax d hb hm c a af 0 (-1,0) rfl;refine ao ?_;rw [LP];simp only [cY];exact this
end
open Go Go.Aev Go.Aev.Gen Go.Aev.Wd Go.IntKind
def bB:Nat->List (List Nm)->List Row
 | _,[]=> []
 | s,x::r=>⟨s,[T.aD],some (false,aO x)⟩::bB (s+1) r
theorem cU:∀(s:Nat) (l:List (List Nm)),(bB s l).length=l.length
 | _,[]=>rfl
 | s,x::r=>by simp [bB,cU (s+1) r]
def au(aj:List (List Nm))(i:Nat):List Nm:=aj.getD i []
theorem iF{aj:List (List Nm)}{i:Nat}(h:i < aj.length):aj[i]? =some (au aj i):=by unfold au;rw [Rr,Rv h];rfl
theorem Gp:∀{l:List (List Nm)} {s i:Nat} {x:List Nm},l[i]? =some x->(bB s l)[i]? =some ⟨s+i,[T.aD],some (false,aO x)⟩
 | [],_,_,_,h=>by simp at h
 | y::r,s,0,x,h=>by simp at h;subst h;rfl
 | y::r,s,i+1,x,h=>by have:=Gp (l:=r) (s:=s+1) (i:=i) (x:=x) (by simpa using h);rw [show s+ (i+1)=s+1+i by omega];simpa [bB] using this
theorem kz{aj:List (List Nm)}{i:Nat}(h:i < aj.length):(bB 0 aj)[((i:Nat):Int).toNat]? =some ⟨i,[T.aD],some (false,aO (au aj i))⟩:=by have:=Gp (s:=0) (iF h);rw [RY] at this;simpa using this
theorem Fs:∀{l:List (List Nm)} {s i:Nat} {x:List Nm},l[i]? =some x->br (s+i) (bB s l)=some (false,aO x)
 | [],_,_,_,h=>by simp at h
 | y::r,s,0,x,h=>by simp at h;subst h;simp [bB,br]
 | y::r,s,i+1,x,h=>by
  have:=Fs (l:=r) (s:=s+1) (i:=i) (x:=x) (by simpa using h);rw [show s+ (i+1)=s+1+i by omega];have a:¬s=s+1+i:=by omega
  simp only [bB,br,if_neg a];exact this
theorem ji{aj:List (List Nm)}{i:Nat}(h:i < aj.length):br i (bB 0 aj)=some (false,aO (au aj i)):=by have:=Fs (s:=0) (iF h);rwa [RY] at this
theorem Ig:∀{l:List (List Nm)} {s i:Nat} (p:Bool×List (List T)) (y:List Nm),p= (false,aO y)->i < l.length->dr (s+i) (some p) (dr (s+i) none (bB s l))=bB s (l.set i y)
 | [],_,_,_,_,_,h=>by simp at h
 | z::r,s,0,p,y,e,_=>by subst e;simp [bB,dr]
 | z::r,s,i+1,p,y,e,h=>by
  have:=Ig (l:=r) (s:=s+1) (i:=i) p y e (by simpa using h);rw [show s+ (i+1)=s+1+i by omega];have a:¬s=s+1+i:=by omega
  simp only [bB,dr,if_neg a,this,Ut]
theorem Pw{aj:List (List Nm)}{i:Nat}(y:List Nm)(h:i < aj.length):dr i (some (false,aO y)) (dr i none (bB 0 aj))=bB 0 (aj.set i y):=by have:=Ig (s:=0) (i:=i) (false,aO y) y rfl h;rwa [RY] at this
theorem GW:∀{l:List (List Nm)} {s i:Nat},i < l.length->lA (s+i) (dr (s+i) none (bB s l))=some ()
 | [],_,_,h=>by simp at h
 | z::r,s,0,_=>by simp [bB,dr,lA]
 | z::r,s,i+1,h=>by
  have:=GW (l:=r) (s:=s+1) (i:=i) (by simpa using h);rw [show s+ (i+1)=s+1+i by omega];have a:¬s=s+1+i:=by omega
  simp only [bB,dr,lA,if_neg a,this]
theorem NW{aj:List (List Nm)}{i:Nat}(h:i < aj.length):lA i (dr i none (bB 0 aj))=some ():=by have:=GW (s:=0) h;rwa [RY] at this
theorem cE:∀(l:List (List Nm)) (s:Nat),bE (bB s l)=true
 | [],_=>rfl
 | x::r,s=>by
  have:=cE r (s+1);unfold bE at *
  simp [bB,this]
theorem OR(s:Nat)(cs:List T)(p:Bool×List (List T)):oU ⟨s,cs,some p⟩=T.ae 0 p.1 p.2:=rfl
theorem DW:∀(l:List (List Nm)) (s:Nat),qQ s ((bB s l).map λe=> [.ptr e.cs,oU e])=some (bB s l)
 | [],_=>rfl
 | x::r,s=>by have:=DW r (s+1);simp only [bB,RX,OR,qQ];rw [this];rfl
theorem eH(b:Bool)(l:List (List Nm)):kg (bH b (bB 0 l))=some (b,bB 0 l):=by simp only [bH,kg];rw [DW];rfl
theorem ER:∀(l:List (List Nm)) (s i k:Nat) (y:List Nm),((bB s l).set i ⟨k,[T.aD],some (false,aO y)⟩).map (λe=> [.ptr e.cs,oU e])= (bB s (l.set i y)).map (λe=> [T.ptr e.cs,oU e])
 | [],_,_,_,_=>rfl
 | z::r,s,0,k,y=>by simp [bB,oU]
 | z::r,s,i+1,k,y=>by have:=ER r (s+1) i k y;simp only [bB,Ut,RX,this]
theorem Ll(b:Bool)(l:List (List Nm))(i k:Nat)(y:List Nm):bH b ((bB 0 l).set i ⟨k,[T.aD],some (false,aO y)⟩)=bH b (bB 0 (l.set i y)):=by simp only [bH,ER]
theorem Jk(l:List Row)(i k:Nat)(cs:List T)(p:Bool×List (List T))(h:bE l=true):bE (l.set i ⟨k,cs,some p⟩)=true:=by
 unfold bE at *
 rw [RK] at *
 intro x a;rcases RV a with h1 | h1
 .exact h x h1
 .subst h1;rfl
abbrev Ln:=List (Nat×Nat)
def bS(l:Ln):List (List T×T):=l.map λp=>([ti (p.1:Int)],ti (p.2:Int))
def bV(v:Nat):Ln->Option Nat
 | []=>none
 | p::r=>if v=p.1 then some p.2 else bV v r
def iR(v i:Nat):Ln->Ln
 | []=> [(v,i)]
 | p::r=>if v=p.1 then(v,i)::r else p::iR v i r
def kj(v:Nat):Ln->Ln
 | []=> []
 | p::r=>if v=p.1 then r else p::kj v r
theorem Ao(a b:Nat):dO [ti (a:Int)] [ti (b:Int)]=decide (a=b):=by
 by_cases h:a=b
 .subst h;simp [dO,mU]
 .have:¬(a:Int)= (b:Int):=by omega
  simp [dO,mU,h,this]
theorem tw(v:Nat):∀(l:Ln),e8 [ti (v:Int)] (bS l)= (bV v l).map λ(i:Nat)=>ti (i:Int)
 | []=>rfl
 | p::r=>by
  have:=tw v r;unfold bS at *
  rw [RX,e8,Ao,bV];by_cases h:v=p.1
  .simp [h]
  .simp [h,this]
theorem xQ(v i:Nat):∀(l:Ln),gE [ti (v:Int)] (ti (i:Int)) (bS l)=bS (iR v i l)
 | []=>rfl
 | p::r=>by
  have:=xQ v i r;unfold bS at *
  rw [RX,gE,Ao,iR];by_cases h:v=p.1
  .simp [h]
  .simp [h,this]
theorem zS(v:Nat):∀(l:Ln),iH [ti (v:Int)] (bS l)=bS (kj v l)
 | []=>rfl
 | p::r=>by
  have:=zS v r;unfold bS at *
  rw [RX,iH,Ao,kj];by_cases h:v=p.1
  .simp [h]
  .simp [h,this]
theorem xz(u v i:Nat):∀(l:Ln),bV u (iR v i l)=if u=v then some i else bV u l
 | []=>by simp [iR,bV]
 | p::r=>by
  have:=xz u v i r;rw [iR];by_cases h:v=p.1
  .rw [if_pos h];simp only [bV];by_cases a:u=v
   .simp [a]
   .have b:¬u=p.1:=by rw [<-h];exact a
    simp [a,b]
  .rw [if_neg h];simp only [bV,this];by_cases a:u=p.1
   .have b:¬u=v:=λe=>h (by rw [<-e,a]);rw [if_pos a,if_neg b,if_pos a]
   .rw [if_neg a,if_neg a]
def nT:Ln->Prop
 | []=>True
 | p::r=>bV p.1 r=none/\nT r
theorem xy(u v:Nat):∀(l:Ln),nT l->bV u (kj v l)=if u=v then none else bV u l
 | [],_=>by simp [kj,bV]
 | p::r,h=>by
  have:=xy u v r h.2;rw [kj];by_cases hv:v=p.1
  .rw [if_pos hv];by_cases a:u=v
   .rw [if_pos a,a,hv];exact h.1
   .rw [if_neg a,bV,if_neg (by rw [<-hv];exact a)]
  .rw [if_neg hv];simp only [bV,this];by_cases a:u=p.1
   .have b:¬u=v:=λe=>hv (by rw [<-e,a]);rw [if_pos a,if_neg b,if_pos a]
   .rw [if_neg a,if_neg a]
theorem AU(v i:Nat):∀(l:Ln),nT l->nT (iR v i l)
 | [],_=>⟨rfl,trivial⟩
 | p::r,h=>by
  rw [iR];by_cases hv:v=p.1
  .rw [if_pos hv];exact⟨by rw [hv];exact h.1,h.2⟩
  .rw [if_neg hv];refine⟨?_,AU v i r h.2⟩;rw [xz,if_neg (λe=>hv e.symm)];exact h.1
theorem F8(v:Nat):∀(l:Ln),nT l->nT (kj v l)
 | [],_=>trivial
 | p::r,h=>by
  rw [kj];by_cases hv:v=p.1
  .rw [if_pos hv];exact h.2
  .rw [if_neg hv];refine⟨?_,F8 v r h.2⟩;rw [xy _ _ _ h.2,if_neg (λe=>hv e.symm)];exact h.1
structure TL where
 af:List Nat
 mp:Ln
 aj:List (List Nm)
 val:List Vl
 ax:List Nm
structure Fl where
 er:Bool
 eb:Bool
 ec:Bool
 ev:Bool
 eg:Bool
abbrev S1(n:Nat)(rows:List R)(f:Fl)(t:TL):List ab:=
 [ab.box [I (n:Int),AV.t (T.ae 3 f.er (bX rows)),AV.own (Id.c 1),AV.own (Id.c 2),AV.own (Id.c 3),AV.own (Id.c 4),AV.own (Id.c 5)],ab.sl false 1 f.eb (cP t.af),ab.mp false [Ck.i .i64] (Ck.i .i64) (bS t.mp),
  ab.rows f.ec 1 0 4 t.aj.length (bB 0 t.aj),ab.sl false 8 f.ev (dB t.val),ab.sl false 4 f.eg (aO t.ax)]
abbrev S2(n:Nat)(rows:List R)(f:Fl)(t:TL):List ab:=
 [ab.box [I (n:Int),AV.t (T.ae 3 f.er (bX rows)),AV.own (Id.c 1),AV.own (Id.c 2),AV.own (Id.c 6),AV.own (Id.c 4),AV.own (Id.c 5)],ab.sl false 1 f.eb (cP t.af),ab.mp false [Ck.i .i64] (Ck.i .i64) (bS t.mp),
  ab.dead,ab.sl false 8 f.ev (dB t.val),ab.sl false 4 f.eg (aO t.ax),ab.rows f.ec 1 0 4 t.aj.length (bB 0 t.aj)]
def fL(n:Nat)(rows:List R)(f:Fl)(t:TL):List T:=
 [ti (n:Int),T.ae 3 f.er (bX rows),T.aD,T.aD,bH f.ec (bB 0 t.aj),T.aD,T.aD,T.ae 1 f.eb (cP t.af),bK (bS t.mp),T.ae 8 f.ev (dB t.val),T.ae 4 f.eg (aO t.ax)]
theorem ei(n:Nat)(rows:List R)(f:Fl)(t:TL):fL n rows f t= [ti (n:Int),T.ae 3 f.er (bX rows),T.aD,T.aD,bH f.ec (bB 0 t.aj),T.aD,T.aD,T.ae 1 f.eb (cP t.af),bK (bS t.mp),T.ae 8 f.ev (dB t.val),T.ae 4 f.eg (aO t.ax)]:=rfl
theorem cF{a:Type}(k:Unit->Option a):aa none (if(true:Bool)=true then some () else none) k=k ():=by rw [if_pos rfl];rfl
open Go Go.Aev Go.Aev.Gen Go.Aev.Wd Go.IntKind
def an(l:List Nm)(v:Nat):Nm:=l.getD v none
theorem fW{l:List Nm}{i:Nat}(h:i < l.length):l[i]? =some (an l i):=by unfold an;rw [Rr,Rv h];rfl
def gD(v:Nat)(a:Vl):List Nat->List (List Nm)->List Vl->List Vl
 | b::bs,x::xs,val=>gD v a bs xs (val.set b (jY (aH val b) (fb a (an x v))))
 | _,_,val=>val
theorem p7{val:List Vl}{i:Nat}(h:i < val.length)(x:Vl)(j:Nat):aH (val.set i x) j=if j=i then x else aH val j:=by
 unfold aH;rw [Rr,Rr,SC];by_cases a:j=i
 .subst a;simp [h]
 .have:¬i=j:=λe=>a e.symm;simp [a,this]
theorem m9{m k:Nat}{a:Vl}{b:Nm}(c:VB m a)(hb:QB k (nv b)):VB (m+k) (fb a b):=⟨c.1.mul hb,c.2.mul hb⟩
theorem r6{m k:Nat}{a b:Vl}(c:VB m a)(hb:VB k b):VB (m+k+1) (nH a b):=⟨c.1.sub hb.1,c.2.sub hb.2⟩
abbrev vY(v:Vl):ab:=ab.box [B (decide ((nv v.1).num < 0)),AV.t (T.str (bF (dz (nv v.1).num))),B (nc v.1),AV.t (T.str (nd v.1)),B (decide ((nv v.2).num < 0)),AV.t (T.str (bF (dz (nv v.2).num))),B (nc v.2),AV.t (T.str (nd v.2))]
structure cH (n m:Nat) (t:TL):Prop where
 b:t.af.length=m
 c:t.aj.length=m
 r:∀x∈t.aj,x.length=n+m
 v:t.val.length=n+m
 lt:∀b∈t.af,b < n+m
 nd:t.af.Nodup
theorem cH.row{n m:Nat}{t:TL}(h:cH n m t){i:Nat}(hi:i < m):(au t.aj i).length=n+m:=h.r _ (Rt (iF (by rw [h.c];exact hi)))
theorem GA(v:Nat)(a:Vl):∀(bs:List Nat) (xs:List (List Nm)) (val:List Vl),(gD v a bs xs val).length=val.length
 | [],_,_=>by simp [gD]
 | _::_,[],_=>by simp [gD]
 | b::bs,x::xs,val=>by rw [gD,GA];simp
section
variable {n:Nat} {rows:List R} (f:Fl) (t:TL)
theorem QK{m k l:Nat}(d:cH n m t){v:Nat}{w:Vl}(hv:v < n+m)(hm:m<=40)
  (J:VB k w) (u:∀x∈t.aj,QB l (nv (an x v))) {a:Nat} (N:a+ (k+l)+1<=6300):
  ∀(bs:List Nat) (xs:List (List Nm)) (i:Nat) (val:List Vl),t.af.drop i=bs->t.aj.drop i=xs->val.length=n+m->(∀b∈bs,VB a (aH val b))->
  Or y6 [r0,I (v:Int),AV.ref (Id.c 6) 0,AV.own (Id.c 1),I (t.af.length:Int),I (i:Int)] (S1 n rows f ⟨t.af,t.mp,t.aj,val,t.ax⟩ ++ [vY w])=some (fL n rows f ⟨t.af,t.mp,t.aj,gD v w bs xs val,t.ax⟩):=by
 intro bs;induction bs with
 | nil=>
  intro xs i val hb p D o;have h1:¬(i:Int) < (t.af.length:Int):=by have:=bP hb;omega
  have E:gD v w [] xs val=val:=by cases xs <;> rfl
  rw [E,ei];refine ao ?_;simp only [Rx,Ry];rw [E8];simp only [al,↓reduceIte,Int.reduceBEq,Int.reduceEq,GD,h1,cE,cF]
 | cons b bs O=>
  intro xs i val hb p D o;obtain⟨q,W,M⟩:=bG hb;have T:=d.b;have U:=d.c;cases xs with
  | nil=>have:=bP p;omega
  | cons x xs=>
   obtain⟨g,x2,Q⟩:=bG p;have V:=d.r x (Rt g);have S:=d.lt b (Rt q);have h1:(i:Int) < (t.af.length:Int):=by omega
   have B: 0<=(i:Int):=by omega
   have C:(i:Int) < (t.aj.length:Int):=by omega
   have s: 0<=(b:Int)/\(b:Int) < (val.length:Int):=by omega
   have H: 0<=(v:Int)/\(v:Int) < (x.length:Int):=by omega
   have y:au t.aj i=x:=by have:=iF (aj:=t.aj) (i:=i) (by omega);rw [g] at this;exact(R1 this).symm
   have A:=kz (aj:=t.aj) (i:=i) (by omega);have z:=ji (aj:=t.aj) (i:=i) (by omega);rw [y] at A z;have K:=o4 J (u x (Rt g)) (by omega);have G:=o b Rs;have k2:=IH G (m9 J (u x (Rt g))) N;have P:=EP (l:=val) (i:=b) (by omega) (jY (aH val b) (fb w (an x v)));rw [cD] at K k2;have j:=d.nd;rw [<-Va i t.af,hb] at j;have F:b∉bs:=(SB.1 (Tc.1 j).2.1).1;have:=O xs (i+1) (val.set b (jY (aH val b) (fb w (an x v)))) M Q (by rw [Sf];exact D) (λL h=>by
    rw [p7 (by omega),if_neg (λe=>F (by rw [<-e];exact h))];exact o L (Ru _ h))
   simp only [Rx,Ry] at this;rw [gD];refine ao ?_;simp only [Rx,Ry];rw [E8];simp only [al,↓reduceIte,Int.reduceBEq,Int.reduceEq,GD,h1,B,C,and_self,cY,jg q,s,cJ,mS (nK (val:=val) (i:=b) (by omega)),cU,A,z,H,bA,cg (fW (l:=x) (i:=v) (by omega)),K,k2,P,next i (by omega)];exact this
def dE(v:Nat)(w:Vl)(t:TL):TL:=⟨t.af,t.mp,t.aj,gD v w t.af t.aj (t.val.set v (jY (aH t.val v) w)),t.ax⟩
theorem sb{m k l:Nat}(c:cH n m t){v:Nat}{w:Vl}(hv:v < n+m)(hm:m<=40)(g:v∉t.af)
  (o:VB k w) (r:∀x∈t.aj,QB l (nv (an x v))) {a:Nat} (q:a+ (k+l)+1<=6300) (d:∀u,u < n+m->VB a (aH t.val u)):
  Or (.call 43) [r0,I (v:Int),EV w] (S1 n rows f t)=some (fL n rows f (dE v w t)):=by
 have h:=c.v;have p:=IH (d v hv) o (by omega);rw [cD] at p;have s:=EP (l:=t.val) (i:=v) (by omega) (jY (aH t.val v) w);have j: 0<=(v:Int)/\(v:Int) < (t.val.length:Int):=by omega
 have:=QK (n:=n) (rows:=rows) f t c hv hm o r q t.af t.aj 0 (t.val.set v (jY (aH t.val v) w)) rfl rfl (by rw [Sf];exact h) (λb hb=>by
  rw [p7 (by omega),if_neg (λe=>g (by rw [<-e];exact hb))];exact d b (c.lt b hb))
 simp only [Rx,Ry] at this;refine ao ?_;rw [L3];simp only [al,↓reduceIte,Int.reduceBEq,Int.reduceEq,GD,j,and_self,cJ,mS (nK (val:=t.val) (i:=v) (by omega)),p,s,cY];exact this
end
open Go Go.Aev Go.Aev.Gen Go.Aev.Wd Go.IntKind
def pl(x y:Nm):Nm:=some (nv x+nv y)
def mi(x y:Nm):Nm:=some (nv x - nv y)
def tm(x y:Nm):Nm:=some (nv x * nv y)
def ov(x y:Nm):Nm:=some (nv x / nv y)
def ng(x:Nm):Nm:=some (-(nv x))
def iN(x:Int):Nm:=some (x:Rat)
theorem Hb(x y:Nm):nv (tm x y)=nv x * nv y:=rfl
theorem NZ(x:Nm):nv (ng x)= -(nv x):=rfl
theorem Ha(x:Int):nv (iN x)= (x:Rat):=rfl
abbrev QN(m:Nat)(x:Nm):Prop:=QB m (nv x)
abbrev NL(x:Nm):List T:= [tb (decide ((nv x).num < 0)),T.str (bF (dz (nv x).num)),tb (nc x),T.str (nd x)]
theorem oL{m k:Nat}{x y:Nm}(a:QN m x)(b:QN k y)(h:m+k+1<=6300):Or (.call 45) [EN x,EN y] []=some (NL (pl x y)):=yp a b h
theorem Ho{m k:Nat}{x y:Nm}(a:QN m x)(b:QN k y)(h:m+k+1<=6300):Or (.call 71) [EN x,EN y] []=some (NL (mi x y)):=Cd a b h
theorem mo{m k:Nat}{x y:Nm}(a:QN m x)(b:QN k y)(h:m+k<=6300):Or (.call 46) [EN x,EN y] []=some (NL (tm x y)):=Ce a b h
theorem np{m k:Nat}{x y:Nm}(b:QN m x)(c:QN k y)(h:m+k<=6300)(a:nv y≠0):Or (.call 42) [EN x,EN y] []=some (NL (ov x y))/\QN (m+k) (ov x y):=P1 b c h a
theorem Hn(x:Nm):Or (.call 70) [EN x] []=some (NL (ng x)):=IG x
theorem fE(x:Int)(h: -9223372036854775808<=x/\x < 9223372036854775808):Or (.call 22) [I x] []=some (NL (iN x)):=yo x h
theorem fK(q:Rat):q.num.sign=0↔q=0:=by rw [VE,VO]
abbrev gT(x:Nm):ab:=ab.box [B (decide ((nv x).num < 0)),AV.t (T.str (bF (dz (nv x).num))),B (nc x),AV.t (T.str (nd x))]
def hI(c:Nm):List Nm->List Nm->List Nm
 | r::b,y::a=>(if nv r=0 then y else pl y (tm c r))::hI c b a
 | _,a=>a
def iX(row:List Nm)(v:Nat)(l:List Nm):List Nm:=if nv (an l v)=0 then l else hI (an l v) row (l.set v none)
theorem pZ{c:Type}(a:List c)(b v:c)(r:List c)(i:Nat)(h:a.length=i):(a++b::r).set i v=a++v::r:=by subst h;simp
theorem Qc{mr ml mc:Nat}(e0 e3:Bool)(v:Nat)(c:Nm)(row:List Nm)(z:QN mc c)(F:∀x∈row,QN mr x)(hs:ml+ (mc+mr)+1<=6300)(hrl:row.length<=100):
  ∀(d a b:List Nm) (k:Nat),row.drop k=d->b.length=k->d.length=a.length->(∀y∈a,QN ml y)->
  Or sF [AV.own (Id.c 0),AV.ref (Id.c 4) 0,AV.own (Id.c 3),I (row.length:Int),I (k:Int)] [ab.sl false 4 e0 (aO (b++a)),ab.box [I (v:Int)],ab.box [AV.own (Id.c 3)],ab.sl false 4 e3 (aO row),gT c]=
   some [T.ae 4 e0 (aO (b++hI c d a)),ti (v:Int),T.aD,T.ae 4 e3 (aO row)]:=by
 intro d;induction d with
 | nil=>
  intro a b k h q m hy;have h1:¬(k:Int) < (row.length:Int):=by have:=bP h;omega
  have e:hI c [] a=a:=rfl;rw [e];refine ao ?_;rw [z8];simp only [al,↓reduceIte,Int.reduceBEq,Int.reduceEq,GD,h1]
 | cons r d C=>
  intro a b k h q m hy;obtain⟨p,K,w⟩:=bG h;cases a with
  | nil=>simp at m
  | cons y a=>
   have h1:(k:Int) < (row.length:Int):=by omega
   have o: 0<=(k:Int):=by omega
   have J:(b++y::a).length=k+1+a.length:=by simp;omega
   have B:(k:Int) < ((b++y::a).length:Int):=by omega
   have A:(b++y::a)[k]? =some y:=by rw [Sp (by omega),q,TU];rfl
   have q1:=F r (Rt p);have H:=hy y Rs;have ks:=lM r;by_cases j:nv r=0
   .have e:hI c (r::d) (y::a)=y::hI c d a:=by rw [hI,if_pos j]
    have g:=(fK (nv r)).2 j;have:=C a (b++ [y]) (k+1) w (by simp;omega) (by simpa using m) (λu s=>hy u (Ru _ s));simp only [R6,Rx,Ry] at this;rw [e];refine ao ?_;rw [z8];simp only [al,↓reduceIte,Int.reduceBEq,Int.reduceEq,GD,h1,o,and_self,bA,cg p,ks,g,next k (by omega)];exact this
   .have e:hI c (r::d) (y::a)=pl y (tm c r)::hI c d a:=by rw [hI,if_neg j]
    have g:¬(nv r).num.sign=0:=λE=>j ((fK _).1 E);have G:=mo z q1 (by omega);have k2:=oL (x:=y) (y:=tm c r) H (z.mul q1) hs;have D:=jA (l:=b++y::a) (i:=k) (by omega) (pl y (tm c r));rw [pZ _ _ _ _ _ q] at D;have:=C a (b++ [pl y (tm c r)]) (k+1) w (by simp;omega) (by simpa using m) (λu s=>hy u (Ru _ s));simp only [R6,Rx,Ry] at this;rw [e];refine ao ?_;rw [z8];simp only [al,↓reduceIte,Int.reduceBEq,Int.reduceEq,GD,h1,o,B,and_self,bA,cg p,cg A,ks,g,G,k2,D,next k (by omega)];exact this
theorem IV{mr ml:Nat}(e0 e3:Bool)(v:Nat)(row l:List Nm)(m:∀x∈row,QN mr x)(g:∀x∈l,QN ml x)(hs:ml+ (ml+mr)+1<=6300)(hrl:row.length<=100)(h:row.length=l.length)(hv:v < l.length):
  Or (.call 73) [AV.own (Id.c 0),AV.ref (Id.c 1) 0,AV.ref (Id.c 2) 0] [ab.sl false 4 e0 (aO l),ab.box [I (v:Int)],ab.box [AV.own (Id.c 3)],ab.sl false 4 e3 (aO row)]=
   some [T.ae 4 e0 (aO (iX row v l)),ti (v:Int),T.aD,T.ae 4 e3 (aO row)]:=by
 have d: 0<=(v:Int)/\(v:Int) < (l.length:Int):=by omega
 have e:=fW hv;have ks:=lM (an l v);unfold iX;by_cases b:nv (an l v)=0
 .have a:=(fK (nv (an l v))).2 b;rw [if_pos b];refine ao ?_;rw [EU];simp only [al,↓reduceIte,Int.reduceBEq,Int.reduceEq,GD,d,and_self,bA,cg e,ks,a]
 .have a:¬(nv (an l v)).num.sign=0:=λk=>b ((fK _).1 k);have j:=jA (l:=l) (i:=v) hv none;rw [show [tb (decide ((nv none).num < 0)),T.str (bF (dz (nv none).num)),tb (nc none),T.str (nd none)]= [tb false,T.str (ByteArray.mk #[]),tb false,T.str (ByteArray.mk #[])] from rfl] at j;have:=Qc (mr:=mr) (ml:=ml) (mc:=ml) e0 e3 v (an l v) row (g _ (Rt e)) m hs hrl row (l.set v none) [] 0 rfl rfl (by simpa using h) (λy hy=>by
   rcases RV hy with h1 | h1
   .exact g y h1
   .subst h1;exact hY _)
  simp only [Ry] at this;rw [if_neg b];refine ao ?_;rw [EU];simp only [al,↓reduceIte,Int.reduceBEq,Int.reduceEq,GD,d,and_self,bA,cg e,ks,a,j];exact this
def fI(row:List Nm)(v i:Nat):Nat->List (List Nm)->List (List Nm)
 | _,[]=> []
 | k,x::xs=>(if k=i then x else iX row v x)::fI row v i (k+1) xs
def cw(x:List Nm)(v b:Nat):List Nm:=((x.map λy=>ng (ov y (an x v))).set v none).set b (ov (iN 1) (an x v))
def eV(i v b:Nat)(row:List Nm)(eg:Bool)(t:TL):TL:=
 ⟨t.af.set i v,iR v i (kj b t.mp),(fI row v i 0 t.aj).set i row,t.val,if eg then t.ax else iX row v t.ax⟩
theorem BX(row:List Nm)(v i:Nat):∀(xs:List (List Nm)) (k:Nat),(fI row v i k xs).length=xs.length
 | [],_=>rfl
 | x::xs,k=>by simp [fI,BX row v i xs (k+1)]
section
variable {n:Nat} {rows:List R} (f:Fl) (t:TL)
theorem QL{m mr ml:Nat}(L:cH n m t)(S:n<=12)(hm:m<=40){i v b:Nat}(hi:i < m)(hv:v < n+m)(hb:t.af[i]? =some b)(row:List Nm)(hrl:row.length=n+m)
  (K:∀x∈row,QN mr x) (Q:∀x∈t.aj,∀y∈x,QN ml y) (N:f.eg=false->t.ax.length=n+m/\∀y∈t.ax,QN ml y) (hs:ml+ (ml+mr)+1<=6300):
  ∀(xs a:List (List Nm)) (k:Nat),a.length=k->a.length+xs.length=m->(∀x∈xs,x.length=n+m/\∀y∈x,QN ml y)->
  Or sI [r0,I (i:Int),AV.ref (Id.c 6) 0,I (b:Int),AV.ref (Id.c 7) 0,AV.fn 73 [] [AV.ref (Id.c 6) 0,AV.ref (Id.c 7) 0],I (m:Int),I (k:Int)]
   (S1 n rows f ⟨t.af,t.mp,a++xs,t.val,t.ax⟩ ++ [ab.box [I (v:Int)],ab.box [AV.own (Id.c 8)],ab.sl false 4 false (aO row)])=
   some (fL n rows f ⟨t.af.set i v,iR v i (kj b t.mp),(a++fI row v i k xs).set i row,t.val,if f.eg then t.ax else iX row v t.ax⟩):=by
 intro xs;have P:=L.b;induction xs with
 | nil=>
  intro a k w g j;simp only [Su,Uj] at g;have h1:¬(k:Int) < (m:Int):=by omega
  have p: 0<=(i:Int)/\(i:Int) < (a.length:Int):=by omega
  have q: 0<=(i:Int)/\(i:Int) < (t.af.length:Int):=by omega
  have d:=kz (aj:=a) (i:=i) (by omega);have kb:=Lj (l:=t.af) (i:=i) (by omega) v;have h:((i:Nat):Int).toNat=i:=by omega
  rw [h] at d kb;have C:=Jk (bB 0 a) i a.length [T.aD] (false,aO row) (cE _ _);have E:=Ll f.ec a i a.length row;have e:fI row v i k []= []:=rfl;rw [ei,e,Sg];refine ao ?_;simp only [Rx,Ry];rw [Aj];cases F:f.eg
  .obtain⟨gl,gq⟩:=N F;have B:=IV (e0:=false) (e3:=false) v row t.ax K gq hs (by omega) (by omega) (by omega);simp only [al,↓reduceIte,Int.reduceBEq,Int.reduceEq,GD,h1,p,q,and_self,cU,cY,h,d,kb,B,RA,zS,xQ,C,E,cF];rfl
  .simp only [al,↓reduceIte,Int.reduceBEq,Int.reduceEq,GD,h1,p,q,and_self,cU,cY,h,d,kb,RA,zS,xQ,C,E,cF]
   try rfl
 | cons x xs M=>
  intro a k w g j;simp only [RP] at g;have h1:(k:Int) < (m:Int):=by omega
  have G: 0<=(k:Int)/\(k:Int) < ((a++x::xs).length:Int):=by simp;omega
  have D:au (a++x::xs) k=x:=by unfold au;rw [Rr,Sp (by omega),w,TU];rfl
  have d:=kz (aj:=a++x::xs) (i:=k) (by simp;omega);have o:=ji (aj:=a++x::xs) (i:=k) (by simp;omega);rw [D] at d o;obtain⟨U,O⟩:=j x Rs;by_cases r:k=i
  .subst r;have:=M (a++ [x]) (k+1) (by simp;omega) (by simp;omega) (λu A=>j u (Ru _ A));simp only [R6,Rx,Ry] at this;have e:fI row v k k (x::xs)=x::fI row v k (k+1) xs:=by rw [fI,if_pos rfl]
   rw [e];refine ao ?_;simp only [Rx,Ry];rw [Aj];simp only [al,↓reduceIte,Int.reduceBEq,Int.reduceEq,GD,h1,next k (by omega)];exact this
  .have z:¬(k:Int)= (i:Int):=by omega
   have B:=IV (e0:=false) (e3:=false) v row x K O hs (by omega) (by omega) (by omega);have s:=Pw (aj:=a++x::xs) (i:=k) (iX row v x) (by simp;omega);have J:=NW (aj:=a++x::xs) (i:=k) (by simp;omega);rw [pZ _ _ _ _ _ w] at s;have:=M (a++ [iX row v x]) (k+1) (by simp;omega) (by simp;omega) (λu A=>j u (Ru _ A));simp only [R6,Rx,Ry] at this;have e:fI row v i k (x::xs)=iX row v x::fI row v i (k+1) xs:=by rw [fI,if_neg r]
   have H:(a++iX row v x::xs).length= (a++x::xs).length:=by simp
   rw [e];refine ao ?_;simp only [Rx,Ry];rw [Aj];simp only [al,↓reduceIte,Int.reduceBEq,Int.reduceEq,GD,h1,z,G,and_self,cU,d,o,B,RA,J,s,next k (by omega)];rw [H] at this;exact this
theorem QM{m mc:Nat}(d:cH n m t)(L:n<=12)(hm:m<=40){i v b:Nat}(hi:i < m)(hv:v < n+m)(hb:t.af[i]? =some b)
  (e:∀x∈t.aj,∀y∈x,QN mc y) (s:nv (an (au t.aj i) v)≠0) (K:f.eg=false->t.ax.length=n+m/\∀y∈t.ax,QN mc y) (hs:mc+ (mc+ (2 * mc+10))+1<=6300):
  ∀(xs:List Nm) (k:Nat),(au t.aj i).drop k=xs->
  Or vI [r0,I (i:Int),AV.ref (Id.c 6) 0,I (b:Int),AV.ref (Id.c 7) 0,AV.ref (Id.c 8) 0,AV.row (Id.c 3) i,I ((au t.aj i).length:Int),I (k:Int)]
   (S1 n rows f t++ [ab.box [I (v:Int)],gT (an (au t.aj i) v),ab.box [AV.own (Id.c 9)],ab.sl false 4 false (aO (((au t.aj i).take k).map (λy=>ng (ov y (an (au t.aj i) v)))++List.replicate xs.length none))])=
   some (fL n rows f (eV i v b (cw (au t.aj i) v b) f.eg t)):=by
 have j:=d.c;have M:=d.row hi;have S:b < n+m:=d.lt b (Rt hb);have A:=ji (aj:=t.aj) (i:=i) (by omega);have g:au t.aj i∈t.aj:=Rt (iF (by omega));have w:QN mc (an (au t.aj i) v):=e _ g _ (Rt (fW (by omega)));intro xs;induction xs with
 | nil=>
  intro k h;have h1:¬(k:Int) < ((au t.aj i).length:Int):=by have:=bP h;omega
  have G:(au t.aj i).take k=au t.aj i:=SM (by have:=bP h;omega);have V:((au t.aj i).map (λy=>ng (ov y (an (au t.aj i) v)))).length=n+m:=by simp;omega
  have H: 0<=(v:Int)/\(v:Int) < (((au t.aj i).map (λy=>ng (ov y (an (au t.aj i) v)))).length:Int):=by omega
  have z: 0<=(b:Int)/\(b:Int) < ((((au t.aj i).map (λy=>ng (ov y (an (au t.aj i) v)))).set v none).length:Int):=by rw [Sf];omega
  have u:=fE 1 (by omega);have q1:QN 2 (iN 1):=dP (by decide);obtain⟨k2,O⟩:=np q1 w (by omega) s;have p:=jA (l:=(au t.aj i).map (λy=>ng (ov y (an (au t.aj i) v)))) (i:=v) (by omega) none;rw [show [tb (decide ((nv none).num < 0)),T.str (bF (dz (nv none).num)),tb (nc none),T.str (nd none)]= [tb false,T.str (ByteArray.mk #[]),tb false,T.str (ByteArray.mk #[])] from rfl] at p;have Q:=jA (l:=((au t.aj i).map (λy=>ng (ov y (an (au t.aj i) v)))).set v none) (i:=b) (by rw [Sf];omega) (ov (iN 1) (an (au t.aj i) v));have E:∀x∈cw (au t.aj i) v b,QN (2 * mc+10) x:=by
   intro x a;unfold cw at a;rcases RV a with a | a
   .rcases RV a with a | a
    .obtain⟨y,hy,rfl⟩:=RU.1 a;exact((np (e _ g y hy) w (by omega) s).2).neg.mono (by omega)
    .subst a;exact hY _
   .subst a;exact O.mono (by omega)
  have D:(cw (au t.aj i) v b).length=n+m:=by unfold cw;simp;omega
  have:=QL (n:=n) (rows:=rows) (ml:=mc) f t d L hm hi hv hb (cw (au t.aj i) v b) D E e K hs t.aj [] 0 rfl (by simpa using j) (λx a=>⟨d.r x a,e x a⟩);simp only [Rx,Ry] at this;rw [G];simp only [Su,TY,Sg];refine ao ?_;simp only [Rx,Ry];rw [E9];simp only [al,↓reduceIte,Int.reduceBEq,Int.reduceEq,GD,h1,H,z,and_self,bA,p,Q,u,k2,cU,j];rw [j] at this;exact this
 | cons x xs N=>
  intro k h;obtain⟨q,W,J⟩:=bG h;have h1:(k:Int) < ((au t.aj i).length:Int):=by omega
  have B: 0<=(k:Int):=by omega
  have o:(((au t.aj i).take k).map (λy=>ng (ov y (an (au t.aj i) v)))).length=k:=by simp;omega
  have U:(((au t.aj i).take k).map (λy=>ng (ov y (an (au t.aj i) v)))++List.replicate (x::xs).length none).length= (au t.aj i).length:=by rw [Sw,o,Td];have:=congrArg List.length h;simp only [Tk] at this;omega
  have C:(k:Int) < ((((au t.aj i).take k).map (λy=>ng (ov y (an (au t.aj i) v)))++List.replicate (x::xs).length none).length:Int):=by omega
  have P:=e _ g x (Rt q);obtain⟨u,q1⟩:=np P w (by omega) s;have k2:=Hn (ov x (an (au t.aj i) v));have p:=jA (l:=((au t.aj i).take k).map (λy=>ng (ov y (an (au t.aj i) v)))++List.replicate (x::xs).length none) (i:=k) (by omega) (ng (ov x (an (au t.aj i) v)))
  have F:(((au t.aj i).take k).map (λy=>ng (ov y (an (au t.aj i) v)))++List.replicate (x::xs).length none).set k (ng (ov x (an (au t.aj i) v)))=
    ((au t.aj i).take (k+1)).map (λy=>ng (ov y (an (au t.aj i) v)))++List.replicate xs.length none:=by
   rw [RP,Sj,pZ _ _ _ _ _ o,Ue,q,TC];simp
  rw [F] at p;have:=N (k+1) J;simp only [Rx,Ry] at this;refine ao ?_;simp only [Rx,Ry];rw [E9];simp only [al,↓reduceIte,Int.reduceBEq,Int.reduceEq,GD,h1,B,C,and_self,A,bA,cg q,u,k2,p,next k (by omega)];exact this
theorem pP{k:Nat}(h:k<=100000):cv (k:Int) (k:Int)=some ():=by unfold cv;rw [if_pos ⟨by omega,by omega,by unfold fV;omega⟩]
theorem sc{m mc:Nat}(a:cH n m t)(w:n<=12)(hm:m<=40){i v b:Nat}(hi:i < m)(hv:v < n+m)(hb:t.af[i]? =some b)
  (s:∀x∈t.aj,∀y∈x,QN mc y) (r:nv (an (au t.aj i) v)≠0) (u:f.eg=false->t.ax.length=n+m/\∀y∈t.ax,QN mc y) (hs:mc+ (mc+ (2 * mc+10))+1<=6300):
  Or (.call 44) [r0,I (i:Int),I (v:Int)] (S1 n rows f t)=some (fL n rows f (eV i v b (cw (au t.aj i) v b) f.eg t)):=by
 have B:=a.c;have A:=a.b;have z:=a.row hi;have h: 0<=(i:Int)/\(i:Int) < (t.af.length:Int):=by omega
 have j: 0<=(i:Int)/\(i:Int) < (t.aj.length:Int):=by omega
 have q: 0<=(v:Int)/\(v:Int) < ((au t.aj i).length:Int):=by omega
 have e:=kz (aj:=t.aj) (i:=i) (by omega);have d:=ji (aj:=t.aj) (i:=i) (by omega);have g:=cg (fW (l:=au t.aj i) (i:=v) (by omega));have o:=pP (k:=(au t.aj i).length) (by omega);have:=QM (n:=n) (rows:=rows) f t a w hm hi hv hb s r u hs (au t.aj i) 0 rfl;have p:(((au t.aj i).length:Nat):Int).toNat= (au t.aj i).length:=by omega
 simp only [Rx,Ry,TZ,SX] at this;refine ao ?_;rw [L4];simp only [al,↓reduceIte,Int.reduceBEq,Int.reduceEq,GD,h,j,q,and_self,cY,jg hb,cU,e,d,bA,g,o,p,qX];exact this
end
open Go Go.Aev Go.Aev.Gen Go.Aev.Wd Go.IntKind
def fG(n:Nat)(s:Nm):List Nm->Nat->List Nm->List Nm
 | [],_,a=>a
 | x::xs,v,a=>if nv x=0 then fG n s xs (v+1) a else fG n s xs (v+1) (a.set (v - n) (ng (tm x s)))
def iw(n m:Nat)(ai:Int)(b:Nat)(row:List Nm):List Nm:=fG n (iN (-ai)) row 0 ((List.replicate m none).set (b - n) (iN (-ai)))
theorem BK(n:Nat)(s:Nm):∀(xs:List Nm) (v:Nat) (a:List Nm),(fG n s xs v a).length=a.length
 | [],_,_=>rfl
 | x::xs,v,a=>by
  rw [fG];split
  .exact BK n s xs _ _
  .rw [BK n s xs];simp
section
variable {n:Nat} {rows:List R} (f:Fl) (t:TL)
theorem QJ{mc:Nat}(o:cH n rows.length t)(L:n<=12)(hm:rows.length<=40){i:Nat}(hi:i < rows.length){s:Nm}(w:QN 2 s)
  (B:∀y∈au t.aj i,QN mc y) (hz:∀v,v < n->nv (an (au t.aj i) v)=0) (hs:mc+2<=6300):
  ∀(xs:List Nm) (k:Nat) (a:List Nm),(au t.aj i).drop k=xs->a.length=rows.length->
  Or sH [r0,AV.own (Id.c 6),AV.ref (Id.c 7) 0,AV.row (Id.c 3) i,I ((au t.aj i).length:Int),I (k:Int)] (S1 n rows f t++ [ab.sl false 4 false (aO a),gT s])=
   some (T.ae 4 false (aO (fG n s xs k a))::fL n rows f t):=by
 have J:=o.c;have D:=o.row hi;have j:=ji (aj:=t.aj) (i:=i) (by omega);intro xs;induction xs with
 | nil=>
  intro k a h p;have h1:¬(k:Int) < ((au t.aj i).length:Int):=by have:=bP h;omega
  rw [fG,ei];refine ao ?_;simp only [Rx,Ry];rw [Ai];simp only [al,↓reduceIte,Int.reduceBEq,Int.reduceEq,GD,h1,cE,cF]
 | cons x xs z=>
  intro k a h p;obtain⟨g,K,q⟩:=bG h;have h1:(k:Int) < ((au t.aj i).length:Int):=by omega
  have m: 0<=(k:Int):=by omega
  have ks:=lM x;have H:=B x (Rt g);by_cases b:nv x=0
  .have e:=(fK (nv x)).2 b;have d:fG n s (x::xs) k a=fG n s xs (k+1) a:=by rw [fG,if_pos b]
   have:=z (k+1) a q p;simp only [Rx,Ry] at this;rw [d];refine ao ?_;simp only [Rx,Ry];rw [Ai];simp only [al,↓reduceIte,Int.reduceBEq,Int.reduceEq,GD,h1,m,and_self,j,bA,cg g,ks,e,next k (by omega)];exact this
  .have e:¬(nv x).num.sign=0:=λA=>b ((fK _).1 A);have d:fG n s (x::xs) k a=fG n s xs (k+1) (a.set (k - n) (ng (tm x s))):=by rw [fG,if_neg b]
   have r:¬k < n:=λC=>b (by
    have:=hz k C;unfold an at this;rw [Rr,g] at this;exact this)
   have E:=uA r (by omega);have F:=mo H w hs;have k2:=Hn (tm x s);have u: 0<=((k - n:Nat):Int)/\((k - n:Nat):Int) < (a.length:Int):=by omega
   have G:=jA (l:=a) (i:=k - n) (by omega) (ng (tm x s));have:=z (k+1) (a.set (k - n) (ng (tm x s))) q (by rw [Sf];exact p);simp only [Rx,Ry] at this;rw [d];refine ao ?_;simp only [Rx,Ry];rw [Ai];simp only [al,↓reduceIte,Int.reduceBEq,Int.reduceEq,GD,h1,m,and_self,j,bA,cg g,ks,e,E,u,F,k2,G,next k (by omega)];exact this
theorem I0{mc:Nat}(a:cH n rows.length t)(w:n<=12)(hm:rows.length<=40){i b:Nat}(hi:i < rows.length)(hb:t.af[i]? =some b)(C:n<=b){ai:Int}(q:ai=1\/ai= -1)
  (u:∀y∈au t.aj i,QN mc y) (hz:∀v,v < n->nv (an (au t.aj i) v)=0) (hs:mc+2<=6300):
  Or (.call 37) [r0,I (i:Int),I ai] (S1 n rows f t)=some (T.ae 4 false (aO (iw n rows.length ai b (au t.aj i)))::fL n rows f t):=by
 have D:=a.c;have B:=a.b;have A:=a.lt b (Rt hb);have d:=pP (k:=(bX rows).length) (by rw [cu];omega);rw [cu] at d;have s:i64.wrap (0 - ai)= -ai:=by rw [Go.Aev.wr (by omega)];omega
 have x:=fE (-ai) (by omega);have h: 0<=(i:Int)/\(i:Int) < (t.af.length:Int):=by omega
 have j: 0<=(i:Int)/\(i:Int) < (t.aj.length:Int):=by omega
 have r:=uA (v:=b) (n:=n) (by omega) (by omega);have p:((rows.length:Nat):Int).toNat=rows.length:=by omega
 have m: 0<=((b - n:Nat):Int)/\((b - n:Nat):Int) < ((List.replicate rows.length (none:Nm)).length:Int):=by rw [Td];omega
 have z:=jA (l:=List.replicate rows.length none) (i:=b - n) (by rw [Td];omega) (iN (-ai));have g:=kz (aj:=t.aj) (i:=i) (by omega);have e:=ji (aj:=t.aj) (i:=i) (by omega);have o:QN 2 (iN (-ai)):=by rcases q with rfl | rfl <;> exact dP (by decide)
 have:=QJ (n:=n) (rows:=rows) f t a w hm hi o u hz hs (au t.aj i) 0 ((List.replicate rows.length none).set (b - n) (iN (-ai))) rfl (by simp);simp only [Rx,Ry] at this;refine ao ?_;rw [LV];simp only [al,↓reduceIte,Int.reduceBEq,Int.reduceEq,GD,cu,d,s,x,h,j,and_self,cY,jg hb,r,p,qX,bA,m,z,cU,g,e];exact this
end
def aR(n:Nat)(rows:List R)(val:List Vl)(ai:Int):List Nm->Nat->Option Nat
 | [],_=>none
 | x::xs,v=>if nv x≠0/\eP n rows val v (ai * (nv x).num.sign)=true then some v else aR n rows val ai xs (v+1)
def oY(n:Nat)(rows:List R)(b:Nat)(ai:Int)(i v:Nat)(t:TL):Vl:=fb (nH (if ai > 0 then gY n rows b else bJ n rows b) (aH t.val b)) (ov (iN 1) (an (au t.aj i) v))
def gm(n:Nat)(rows:List R)(eg:Bool)(b:Nat)(ai:Int)(i v:Nat)(t:TL):TL:=
 eV i v b (cw (au t.aj i) v b) eg (dE v (oY n rows b ai i v t) t)
theorem oW(q:Rat):q.num.sign=1\/q.num.sign= -1\/q.num.sign=0:=by
 rcases TW q.num 0 with h | h | h
 .exact .inr (.inl (SO h))
 .exact .inr (.inr (by rw [h];rfl))
 .exact .inl (SV h)
theorem cH.mv{n m:Nat}{t:TL}(h:cH n m t)(v:Nat)(w:Vl):cH n m (dE v w t) where
 b:=h.b
 c:=h.c
 r:=h.r
 v:=by show(gD _ _ _ _ _).length=_;rw [GA,Sf];exact h.v
 lt:=h.lt
 nd:=h.nd
section
variable {n:Nat} {rows:List R} (f:Fl) (t:TL)
set_option maxRecDepth 20000 in
theorem Qq{mv mc:Nat}(sz:Sz n rows)(l:cH n rows.length t){i b:Nat}(hi:i < rows.length)(hb:t.af[i]? =some b)(hbn:n<=b){ai:Int}(Z:ai=1\/ai= -1)(hge:f.eg=true)
  (K:∀u,u < n+rows.length->VB mv (aH t.val u)) (X:∀x∈t.aj,∀y∈x,QN mc y) (hzb:∀v,nv (an (au t.aj i) v)≠0->v∉t.af)
  (h1s: 20<=mv) (h2s: 3 * mv+2 * mc+10<=6200) (h3s: 4 * mc+20<=6200) (p:Int)
  (hno:aR n rows t.val ai (au t.aj i) 0=none->∀v,v < n->nv (an (au t.aj i) v)=0) {res:List T}
  (d:(match aR n rows t.val ai (au t.aj i) 0 with
   | none=>some (T.ae 4 false (aO (iw n rows.length ai b (au t.aj i)))::tb true::fL n rows f t)
   | some v=>Or pn [r0,I p] (S2 n rows f (gm n rows f.eg b ai i v t)))=some res):
  ∀(xs:List Nm) (k:Nat),(au t.aj i).drop k=xs->aR n rows t.val ai xs k=aR n rows t.val ai (au t.aj i) 0->
  Or nU [r0,I p,I (b:Int),I ai,I (i:Int),I (-1),AV.row (Id.c 3) i,I ((au t.aj i).length:Int),I (k:Int)] (S1 n rows f t)=some res:=by
 have hn:=sz.n;have hm:=sz.m;have hcl:=l.c;have hvl:=l.v;have hrow:=l.row hi;have q:=l.lt b (Rt hb);have O:=ji (aj:=t.aj) (i:=i) (by omega);have hci:au t.aj i∈t.aj:=Rt (iF (by omega));intro xs;induction xs with
 | nil=>
  intro k h Y;have h1:¬(k:Int) < ((au t.aj i).length:Int):=by have:=bP h;omega
  have N:aR n rows t.val ai (au t.aj i) 0=none:=by rw [<-Y];rfl
  have k1:=I0 (n:=n) (rows:=rows) f t l hn hm hi hb hbn Z (X _ hci) (hno N) (by omega);rw [N] at d;simp only at d;rw [ei] at k1 d;rw [<-d];refine ao ?_;rw [tn];simp only [al,↓reduceIte,Int.reduceBEq,Int.reduceEq,GD,eI,h1,k1,eH,dZ,RA,cE,cF]
  try rfl
 | cons x xs ih=>
  intro k h Y;obtain⟨S,g2,g3⟩:=bG h;have h1:(k:Int) < ((au t.aj i).length:Int):=by omega
  have P: 0<=(k:Int):=by omega
  have ks:=lM x;have qx:=X _ hci x (Rt S);by_cases C:nv x=0
  .have z:=(fK (nv x)).2 C;have D:aR n rows t.val ai (x::xs) k=aR n rows t.val ai xs (k+1):=by rw [aR,if_neg (λs=>s.1 C)]
   have M:(!((nv x).num.sign==0))=false:=by rw [z];rfl
   have:=ih (k+1) g3 (by rw [<-D];exact Y);refine ao ?_;rw [tn];simp only [cm,al,↓reduceIte,Int.reduceBEq,Int.reduceEq,GD,h1,P,and_self,O,bA,cg S,ks,z,next k (by omega)];exact this
  .have z:¬(nv x).num.sign=0:=λs=>C ((fK _).1 s);have M:(!((nv x).num.sign==0))=true:=by simpa using z
   have hws:i64.wrap (ai * (nv x).num.sign)=ai * (nv x).num.sign:=by refine Go.Aev.wr ?_;rcases Z with rfl | rfl <;> rcases oW (nv x) with e | e | e <;> rw [e] <;> omega
   have kc:=yz sz f.er f.eb f.ev f.eg t.af t.val t.ax hvl K (by omega) (v:=k) (by omega) (ai * (nv x).num.sign);by_cases w:eP n rows t.val k (ai * (nv x).num.sign)=true
   .have D:aR n rows t.val ai (x::xs) k=some k:=by rw [aR,if_pos ⟨C,w⟩]
    have N:aR n rows t.val ai (au t.aj i) 0=some k:=by rw [<-Y,D]
    have E:an (au t.aj i) k=x:=by unfold an;rw [Rr,S];rfl
    have hkb:=hzb k (by rw [E];exact C);have hk1:¬(k:Int) < 0:=by omega
    have V:=sa sz f.er f.eb f.ev f.eg t.af t.val t.ax q;have U:=uF sz f.er f.eb f.ev f.eg t.af t.val t.ax q;have hbv:=mS (nK (val:=t.val) (i:=b) (by omega));have hb1: 0<=(b:Int)/\(b:Int) < (t.val.length:Int):=by omega
    have hi2: 0<=(i:Int)/\(i:Int) < (t.aj.length:Int):=by omega
    have hgi:=kz (aj:=t.aj) (i:=i) (by omega);have k32:=fE 1 (by omega);have q1:QN 2 (iN 1):=dP (by decide);obtain⟨k83,Q⟩:=np q1 qx (by omega) C;have hcx:∀y∈t.aj,QB mc (nv (an y k)):=λy hy=>X y hy _ (Rt (fW (by rw [l.r y hy];omega)));rw [N] at d;simp only at d;rcases Z with hw | hw
    .subst hw;have qt:=tK sz q;have F:=uC qt (K b q) (by omega);have qs:=r6 qt (K b q);have G:=o4 (b:=ov (iN 1) x) qs Q (by omega);have qw:=m9 (b:=ov (iN 1) x) qs Q;have B:=sb (n:=n) (rows:=rows) f t l (v:=k) (by omega) hm hkb qw hcx (a:=mv) (by omega) K;obtain⟨o,g⟩:∃o,o=dE k (fb (nH (gY n rows b) (aH t.val b)) (ov (iN 1) x)) t:=⟨_,rfl⟩;have H:o.aj=t.aj:=by rw [g];rfl
     have J:o.af[i]? =some b:=by rw [g];exact hb
     rw [<-g] at B;have j:=sc (n:=n) (rows:=rows) f o (by rw [g];exact l.mv _ _) hn hm hi (v:=k) (by omega) J (by rw [H];exact X) (by rw [H,E];exact C) (λs=>by rw [hge] at s;cases s) (by omega);rw [H] at j;have A:gm n rows f.eg b 1 i k t=eV i k b (cw (au t.aj i) k b) f.eg o:=by unfold gm oY;rw [E,g];rfl
     generalize cw (au t.aj i) k b=L at j A;generalize hT2:eV i k b L f.eg o=t2 at j A;rw [ei] at B j;rw [cD] at V U F G;simp only [Rx,Ry] at V U;have W:(1:Int) > 0:=by omega
     rw [A] at d;refine ao ?_;rw [tn];simp only [al,↓reduceIte,Int.reduceBEq,Int.reduceEq,GD,eI,bW,h1,P,hk1,hb1,hi2,and_self,O,hgi,bA,cJ,cU,cg S,hbv,ks,z,M,hws,kc,w,V,U,F,k32,k83,G,B,j,W,eH,dZ,RA];exact d
    .subst hw;have qt:=p6 sz q;have F:=uC qt (K b q) (by omega);have qs:=r6 qt (K b q);have G:=o4 (b:=ov (iN 1) x) qs Q (by omega);have qw:=m9 (b:=ov (iN 1) x) qs Q;have B:=sb (n:=n) (rows:=rows) f t l (v:=k) (by omega) hm hkb qw hcx (a:=mv) (by omega) K;obtain⟨o,g⟩:∃o,o=dE k (fb (nH (bJ n rows b) (aH t.val b)) (ov (iN 1) x)) t:=⟨_,rfl⟩;have H:o.aj=t.aj:=by rw [g];rfl
     have J:o.af[i]? =some b:=by rw [g];exact hb
     rw [<-g] at B;have j:=sc (n:=n) (rows:=rows) f o (by rw [g];exact l.mv _ _) hn hm hi (v:=k) (by omega) J (by rw [H];exact X) (by rw [H,E];exact C) (λs=>by rw [hge] at s;cases s) (by omega);rw [H] at j;have A:gm n rows f.eg b (-1) i k t=eV i k b (cw (au t.aj i) k b) f.eg o:=by unfold gm oY;rw [E,g];rfl
     generalize cw (au t.aj i) k b=L at j A;generalize hT2:eV i k b L f.eg o=t2 at j A;rw [ei] at B j;rw [cD] at V U F G;simp only [Rx,Ry] at V U;have W:¬(-1:Int) > 0:=by omega
     rw [A] at d;refine ao ?_;rw [tn];simp only [al,↓reduceIte,Int.reduceBEq,Int.reduceEq,GD,eI,bW,h1,P,hk1,hb1,hi2,and_self,O,hgi,bA,cJ,cU,cg S,hbv,ks,z,M,hws,kc,w,V,U,F,k32,k83,G,B,j,W,eH,dZ,RA];exact d
   .have D:aR n rows t.val ai (x::xs) k=aR n rows t.val ai xs (k+1):=by rw [aR,if_neg (λs=>w s.2)]
    have hcan':eP n rows t.val k (ai * (nv x).num.sign)=false:=by simpa using w
    have:=ih (k+1) g3 (by rw [<-D];exact Y);refine ao ?_;rw [tn];simp only [al,↓reduceIte,Int.reduceBEq,Int.reduceEq,GD,h1,P,and_self,O,bA,cg S,ks,z,M,hws,kc,hcan',next k (by omega)];exact this
end
section
variable {n:Nat} {rows:List R} (f:Fl) (t:TL)
set_option maxRecDepth 20000 in
theorem Qr{mv mc:Nat}(sz:Sz n rows)(l:cH n rows.length t){i b:Nat}(hi:i < rows.length)(hb:t.af[i]? =some b)(hbn:n<=b){ai:Int}(Z:ai=1\/ai= -1)(hge:f.eg=true)
  (K:∀u,u < n+rows.length->VB mv (aH t.val u)) (X:∀x∈t.aj,∀y∈x,QN mc y) (hzb:∀v,nv (an (au t.aj i) v)≠0->v∉t.af)
  (h1s: 20<=mv) (h2s: 3 * mv+2 * mc+10<=6200) (h3s: 4 * mc+20<=6200) (p:Int)
  (hno:aR n rows t.val ai (au t.aj i) 0=none->∀v,v < n->nv (an (au t.aj i) v)=0) {res:List T}
  (d:(match aR n rows t.val ai (au t.aj i) 0 with
   | none=>some (T.ae 4 false (aO (iw n rows.length ai b (au t.aj i)))::tb true::fL n rows f t)
   | some v=>Or pn [r0,I p] (S2 n rows f (gm n rows f.eg b ai i v t)))=some res):
  ∀(xs:List Nm) (k:Nat),(au t.aj i).drop k=xs->aR n rows t.val ai xs k=aR n rows t.val ai (au t.aj i) 0->
  Or nU [r0,I p,I (b:Int),I ai,I (i:Int),I (-1),AV.row (Id.c 6) i,I ((au t.aj i).length:Int),I (k:Int)] (S2 n rows f t)=some res:=by
 have hn:=sz.n;have hm:=sz.m;have hcl:=l.c;have hvl:=l.v;have hrow:=l.row hi;have q:=l.lt b (Rt hb);have O:=ji (aj:=t.aj) (i:=i) (by omega);have hci:au t.aj i∈t.aj:=Rt (iF (by omega));intro xs;induction xs with
 | nil=>
  intro k h Y;have h1:¬(k:Int) < ((au t.aj i).length:Int):=by have:=bP h;omega
  have N:aR n rows t.val ai (au t.aj i) 0=none:=by rw [<-Y];rfl
  have k1:=I0 (n:=n) (rows:=rows) f t l hn hm hi hb hbn Z (X _ hci) (hno N) (by omega);rw [N] at d;simp only at d;rw [ei] at k1 d;rw [<-d];refine ao ?_;rw [tp];simp only [al,↓reduceIte,Int.reduceBEq,Int.reduceEq,GD,eI,h1,k1,eH,dZ,RA,cE,cF]
  try rfl
 | cons x xs ih=>
  intro k h Y;obtain⟨S,g2,g3⟩:=bG h;have h1:(k:Int) < ((au t.aj i).length:Int):=by omega
  have P: 0<=(k:Int):=by omega
  have ks:=lM x;have qx:=X _ hci x (Rt S);by_cases C:nv x=0
  .have z:=(fK (nv x)).2 C;have D:aR n rows t.val ai (x::xs) k=aR n rows t.val ai xs (k+1):=by rw [aR,if_neg (λs=>s.1 C)]
   have M:(!((nv x).num.sign==0))=false:=by rw [z];rfl
   have:=ih (k+1) g3 (by rw [<-D];exact Y);refine ao ?_;rw [tp];simp only [cm,al,↓reduceIte,Int.reduceBEq,Int.reduceEq,GD,h1,P,and_self,O,bA,cg S,ks,z,next k (by omega)];exact this
  .have z:¬(nv x).num.sign=0:=λs=>C ((fK _).1 s);have M:(!((nv x).num.sign==0))=true:=by simpa using z
   have hws:i64.wrap (ai * (nv x).num.sign)=ai * (nv x).num.sign:=by refine Go.Aev.wr ?_;rcases Z with rfl | rfl <;> rcases oW (nv x) with e | e | e <;> rw [e] <;> omega
   have kc:=yz sz f.er f.eb f.ev f.eg t.af t.val t.ax hvl K (by omega) (v:=k) (by omega) (ai * (nv x).num.sign);by_cases w:eP n rows t.val k (ai * (nv x).num.sign)=true
   .have D:aR n rows t.val ai (x::xs) k=some k:=by rw [aR,if_pos ⟨C,w⟩]
    have N:aR n rows t.val ai (au t.aj i) 0=some k:=by rw [<-Y,D]
    have E:an (au t.aj i) k=x:=by unfold an;rw [Rr,S];rfl
    have hkb:=hzb k (by rw [E];exact C);have hk1:¬(k:Int) < 0:=by omega
    have V:=sa sz f.er f.eb f.ev f.eg t.af t.val t.ax q;have U:=uF sz f.er f.eb f.ev f.eg t.af t.val t.ax q;have hbv:=mS (nK (val:=t.val) (i:=b) (by omega));have hb1: 0<=(b:Int)/\(b:Int) < (t.val.length:Int):=by omega
    have hi2: 0<=(i:Int)/\(i:Int) < (t.aj.length:Int):=by omega
    have hgi:=kz (aj:=t.aj) (i:=i) (by omega);have k32:=fE 1 (by omega);have q1:QN 2 (iN 1):=dP (by decide);obtain⟨k83,Q⟩:=np q1 qx (by omega) C;have hcx:∀y∈t.aj,QB mc (nv (an y k)):=λy hy=>X y hy _ (Rt (fW (by rw [l.r y hy];omega)));rw [N] at d;simp only at d;rcases Z with hw | hw
    .subst hw;have qt:=tK sz q;have F:=uC qt (K b q) (by omega);have qs:=r6 qt (K b q);have G:=o4 (b:=ov (iN 1) x) qs Q (by omega);have qw:=m9 (b:=ov (iN 1) x) qs Q;have B:=sb (n:=n) (rows:=rows) f t l (v:=k) (by omega) hm hkb qw hcx (a:=mv) (by omega) K;obtain⟨o,g⟩:∃o,o=dE k (fb (nH (gY n rows b) (aH t.val b)) (ov (iN 1) x)) t:=⟨_,rfl⟩;have H:o.aj=t.aj:=by rw [g];rfl
     have J:o.af[i]? =some b:=by rw [g];exact hb
     rw [<-g] at B;have j:=sc (n:=n) (rows:=rows) f o (by rw [g];exact l.mv _ _) hn hm hi (v:=k) (by omega) J (by rw [H];exact X) (by rw [H,E];exact C) (λs=>by rw [hge] at s;cases s) (by omega);rw [H] at j;have A:gm n rows f.eg b 1 i k t=eV i k b (cw (au t.aj i) k b) f.eg o:=by unfold gm oY;rw [E,g];rfl
     generalize cw (au t.aj i) k b=L at j A;generalize hT2:eV i k b L f.eg o=t2 at j A;rw [ei] at B j;rw [cD] at V U F G;simp only [Rx,Ry] at V U;have W:(1:Int) > 0:=by omega
     rw [A] at d;refine ao ?_;rw [tp];simp only [al,↓reduceIte,Int.reduceBEq,Int.reduceEq,GD,eI,bW,h1,P,hk1,hb1,hi2,and_self,O,hgi,bA,cJ,cU,cg S,hbv,ks,z,M,hws,kc,w,V,U,F,k32,k83,G,B,j,W,eH,dZ,RA];exact d
    .subst hw;have qt:=p6 sz q;have F:=uC qt (K b q) (by omega);have qs:=r6 qt (K b q);have G:=o4 (b:=ov (iN 1) x) qs Q (by omega);have qw:=m9 (b:=ov (iN 1) x) qs Q;have B:=sb (n:=n) (rows:=rows) f t l (v:=k) (by omega) hm hkb qw hcx (a:=mv) (by omega) K;obtain⟨o,g⟩:∃o,o=dE k (fb (nH (bJ n rows b) (aH t.val b)) (ov (iN 1) x)) t:=⟨_,rfl⟩;have H:o.aj=t.aj:=by rw [g];rfl
     have J:o.af[i]? =some b:=by rw [g];exact hb
     rw [<-g] at B;have j:=sc (n:=n) (rows:=rows) f o (by rw [g];exact l.mv _ _) hn hm hi (v:=k) (by omega) J (by rw [H];exact X) (by rw [H,E];exact C) (λs=>by rw [hge] at s;cases s) (by omega);rw [H] at j;have A:gm n rows f.eg b (-1) i k t=eV i k b (cw (au t.aj i) k b) f.eg o:=by unfold gm oY;rw [E,g];rfl
     generalize cw (au t.aj i) k b=L at j A;generalize hT2:eV i k b L f.eg o=t2 at j A;rw [ei] at B j;rw [cD] at V U F G;simp only [Rx,Ry] at V U;have W:¬(-1:Int) > 0:=by omega
     rw [A] at d;refine ao ?_;rw [tp];simp only [al,↓reduceIte,Int.reduceBEq,Int.reduceEq,GD,eI,bW,h1,P,hk1,hb1,hi2,and_self,O,hgi,bA,cJ,cU,cg S,hbv,ks,z,M,hws,kc,w,V,U,F,k32,k83,G,B,j,W,eH,dZ,RA];exact d
   .have D:aR n rows t.val ai (x::xs) k=aR n rows t.val ai xs (k+1):=by rw [aR,if_neg (λs=>w s.2)]
    have hcan':eP n rows t.val k (ai * (nv x).num.sign)=false:=by simpa using w
    have:=ih (k+1) g3 (by rw [<-D];exact Y);refine ao ?_;rw [tp];simp only [al,↓reduceIte,Int.reduceBEq,Int.reduceEq,GD,h1,P,and_self,O,bA,cg S,ks,z,M,hws,kc,hcan',next k (by omega)];exact this
end
end Go.Aev.Wd.Lg
