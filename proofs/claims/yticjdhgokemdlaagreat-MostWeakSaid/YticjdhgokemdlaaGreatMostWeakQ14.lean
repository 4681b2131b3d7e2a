import Derived.Test.YticjdhgokemdlaaGreatMostWeakQ12
import Derived.Test.YticjdhgokemdlaaGreatMostWeakQ13
set_option linter.all false
namespace Go.Aev.Wd.Lg
open Go Go.Aev Go.Aev.Gen Go.Aev.Wd Go.IntKind
abbrev Vl:=Nm×Nm
abbrev EV(v:Vl):AV:=AV.agg [B (decide ((nv v.1).num < 0)),AV.t (T.str (bJ (dz (nv v.1).num))),B (nc v.1),AV.t (T.str (nd v.1)),B (decide ((nv v.2).num < 0)),AV.t (T.str (bJ (dz (nv v.2).num))),B (nc v.2),AV.t (T.str (nd v.2))]
def VC(v:Vl):List T:= [tb (decide ((nv v.1).num < 0)),T.str (bJ (dz (nv v.1).num)),tb (nc v.1),T.str (nd v.1),tb (decide ((nv v.2).num < 0)),T.str (bJ (dz (nv v.2).num)),tb (nc v.2),T.str (nd v.2)]
theorem cE(v:Vl):VC v= [tb (decide ((nv v.1).num < 0)),T.str (bJ (dz (nv v.1).num)),tb (nc v.1),T.str (nd v.1),tb (decide ((nv v.2).num < 0)),T.str (bJ (dz (nv v.2).num)),tb (nc v.2),T.str (nd v.2)]:=rfl
def dO(l:List Vl):List (List T):=l.map VC
theorem cN(l:List Vl):(dO l).length=l.length:=by simp [dO]
theorem np{l:List Vl}{i:Nat}{x:Vl}(h:l[i]? =some x):(dO l)[((i:Nat):Int).toNat]? =some [tb (decide ((nv x.1).num < 0)),T.str (bJ (dz (nv x.1).num)),tb (nc x.1),T.str (nd x.1),tb (decide ((nv x.2).num < 0)),T.str (bJ (dz (nv x.2).num)),tb (nc x.2),T.str (nd x.2)]:=by simp [dO,h,VC]
theorem GC{l:List Vl}{i:Nat}(hi:i < l.length)(x:Vl):bm ((i:Nat):Int).toNat 0 [tb (decide ((nv x.1).num < 0)),T.str (bJ (dz (nv x.1).num)),tb (nc x.1),T.str (nd x.1),tb (decide ((nv x.2).num < 0)),T.str (bJ (dz (nv x.2).num)),tb (nc x.2),T.str (nd x.2)] (dO l)=some (dO (l.set i x)):=by
 have h1:(dO l)[((i:Nat):Int).toNat]? =some (VC l[i]):=by simp [dO,hi]
 simp only [bm,h1];simp [bZ,dO,VC,Xe]
def cS(l:List Nat):List (List T):=l.map λ(v:Nat)=> [ti (v:Int)]
theorem df(l:List Nat):(cS l).length=l.length:=by simp [cS]
theorem jJ{l:List Nat}{i:Nat}{x:Nat}(h:l[i]? =some x):(cS l)[((i:Nat):Int).toNat]? =some [ti (x:Int)]:=by simp [cS,h]
theorem NM{l:List Nat}{i:Nat}(hi:i < l.length)(x:Nat):bm ((i:Nat):Int).toNat 0 [ti (x:Int)] (cS l)=some (cS (l.set i x)):=by
 have h1:(cS l)[((i:Nat):Int).toNat]? =some [ti (l[i]:Int)]:=by simp [cS,hi]
 simp only [bm,h1];simp [bZ,cS,Xe]
theorem eW{a:Type}(x y z u v t w:a)(l:List a):(x::y::z::u::v::t::w::l).drop 7=l:=by cases l <;> rfl
theorem cf{a:Type}(x y z u v t w s:a)(l:List a):(x::y::z::u::v::t::w::s::l).drop 8=l:=by cases l <;> rfl
def VB(m:Nat)(v:Vl):Prop:=QB m (nv v.1)/\QB m (nv v.2)
theorem VB.mono{m k:Nat}{v:Vl}(h:VB m v)(a:m<=k):VB k v:=⟨h.1.mono a,h.2.mono a⟩
def kN(a b:Vl):Vl:=(some (nv a.1+nv b.1),some (nv a.2+nv b.2))
def nX(a b:Vl):Vl:=(some (nv a.1 - nv b.1),some (nv a.2 - nv b.2))
def fB(a:Vl)(k:Nm):Vl:=(some (nv a.1 * nv k),some (nv a.2 * nv k))
def eF(a b:Vl):Int:=if cq (nv a.1) (nv b.1)=0 then cq (nv a.2) (nv b.2) else cq (nv a.1) (nv b.1)
theorem KC{m k:Nat}{a b:Vl}(c:VB m a)(hb:VB k b)(h:m+k+1<=6300):Or (.call 122) [EV a,EV b] []=some (VC (kN a b)):=by have d:=zT c.1 hb.1 h;have k2:=zT c.2 hb.2 h;rw [sF] at d k2;rw [cE];refine ak ?_;rw [NU];simp only [ai,↓reduceIte,Int.reduceBEq,Int.reduceEq,GD,d,k2];rfl
theorem vR{m k:Nat}{a b:Vl}(c:VB m a)(hb:VB k b)(h:m+k+1<=6300):Or (.call 81) [EV a,EV b] []=some (VC (nX a b)):=by have d:=DO c.1 hb.1 h;have k2:=DO c.2 hb.2 h;rw [sF] at d k2;rw [cE];refine ak ?_;rw [On];simp only [ai,↓reduceIte,Int.reduceBEq,Int.reduceEq,GD,d,k2];rfl
theorem pq{m k:Nat}{a:Vl}{b:Nm}(c:VB m a)(hb:QB k (nv b))(h:m+k<=6300):Or (.call 82) [EV a,EN b] []=some (VC (fB a b)):=by have d:=DP c.1 hb h;have k2:=DP c.2 hb h;rw [sF] at d k2;rw [cE];refine ak ?_;rw [Oo];simp only [ai,↓reduceIte,Int.reduceBEq,Int.reduceEq,GD,d,k2];rfl
theorem vQ{m k:Nat}{a b:Vl}(d:VB m a)(hb:VB k b)(h:m+k<=6300):Or (.call 119) [EV a,EV b] []=some [ti (eF a b)]:=by
 have e:=nY d.1 hb.1 h;have k2:=nY d.2 hb.2 h;refine ak ?_;rw [NT];unfold eF;by_cases c:cq (nv a.1) (nv b.1)=0
 .simp only [ai,↓reduceIte,Int.reduceBEq,Int.reduceEq,GD,e,k2,c]
 .simp only [ai,↓reduceIte,Int.reduceBEq,Int.reduceEq,GD,e,k2,c]
abbrev TP(n:Nat)(er:Bool)(rows:List R)(eb:Bool)(ah:List Nat)(ev:Bool)(val:List Vl)(eg:Bool)(aB:List Nm):T:=
 T.ptr [ti (n:Int),T.aa 3 er (dC rows),T.aa 1 eb (cS ah),T.any,T.any,T.aa 8 ev (dO val),T.aa 4 eg (aR aB)]
structure Sz (n:Nat) (rows:List R):Prop where
 n:n<=12
 m:rows.length<=40
 tv:∀r∈rows, -1000000<=r.tv/\r.tv<=1000000
def bf(rows:List R)(i:Nat):R:=rows.getD i default
theorem pg{rows:List R}{i:Nat}(h:i < rows.length):rows[i]? =some (bf rows i):=by unfold bf;rw [Ul,Up h];rfl
theorem jt{rows:List R}{i:Nat}(h:i < rows.length):bf rows i∈rows:=Uj (pg h)
def bP(n:Nat)(rows:List R)(v:Nat):Vl:=if v < n then(none,none) else(some ((bf rows (v - n)).tv:Rat),if(bf rows (v - n)).kd=2 then some ((-1:Int):Rat) else none)
def fb(n:Nat)(rows:List R)(v:Nat):Bool:= !decide (v < n) && decide ((bf rows (v - n)).kd=3)
def iD(n:Nat)(rows:List R)(v:Nat):Vl:=if fb n rows v=true then(some ((bf rows (v - n)).tv:Rat),none) else(none,none)
theorem iI(m:Nat):QB m 0:=⟨by simp,by simpa using Yx⟩
theorem eu{m:Nat}{c:Int}(h:c.natAbs<=2 ^ m):QB m (c:Rat):=⟨h,Yx⟩
theorem qK{n:Nat}{rows:List R}(sz:Sz n rows){v:Nat}(hv:v < n+rows.length):VB 20 (bP n rows v):=by
 unfold bP;by_cases h:v < n
 .rw [if_pos h];exact⟨iI _,iI _⟩
 .rw [if_neg h];have:=sz.tv _ (jt (i:=v - n) (by omega));refine⟨eu (by omega), ?_⟩;dsimp only;split
  .exact eu (by decide)
  .exact iI _
theorem uU{n:Nat}{rows:List R}(sz:Sz n rows){v:Nat}(hv:v < n+rows.length):VB 20 (iD n rows v):=by
 unfold iD;by_cases h:fb n rows v=true
 .rw [if_pos h];have b:¬v < n:=λa=>by simp [fb,a] at h
  have:=sz.tv _ (jt (rows:=rows) (i:=v - n) (by omega));exact⟨eu (by omega),iI _⟩
 .rw [if_neg h];exact⟨iI _,iI _⟩
theorem sX{v n:Nat}(h:¬v < n)(hv:v<=1000):i64.wrap ((v:Int) - (n:Int))= ((v - n:Nat):Int):=by rw [Go.Aev.wr (by omega)];omega
section
variable {n:Nat} {rows:List R} (sz:Sz n rows) (er eb ev eg:Bool) (ah:List Nat) (val:List Vl) (aB:List Nm)
include sz
theorem td{v:Nat}(hv:v < n+rows.length):Or (.call 79) [AV.t (TP n er rows eb ah ev val eg aB),I (v:Int)] []=some (VC (bP n rows v)++ [tb (!decide (v < n))]):=by
 have g:=sz.n;have hm:=sz.m;refine ak ?_;rw [Ol,cE];unfold bP;by_cases h:v < n
 .have h1:(v:Int) < (n:Int):=by omega
  simp only [ai,↓reduceIte,Int.reduceBEq,Int.reduceEq,GD,h,h1,decide_true];rfl
 .have h1:¬(v:Int) < (n:Int):=by omega
  have d:=sX h (by omega);have hi:v - n < rows.length:=by omega
  have c: 0<=((v - n:Nat):Int)/\((v - n:Nat):Int) < (rows.length:Int):=by omega
  have e:=sz.tv _ (jt hi);have a:=zS (bf rows (v - n)).tv (by omega);have k2:=zS (-1) (by omega);rw [sF] at a k2;by_cases b:(bf rows (v - n)).kd=2
  .simp only [ai,↓reduceIte,Int.reduceBEq,Int.reduceEq,GD,h,h1,d,c,and_self,cR,ic (pg hi),a,k2,b,decide_false];rfl
  .simp only [ai,↓reduceIte,Int.reduceBEq,Int.reduceEq,GD,h,h1,d,c,and_self,cR,ic (pg hi),a,k2,b,decide_false];rfl
theorem vU{v:Nat}(hv:v < n+rows.length):Or (.call 80) [AV.t (TP n er rows eb ah ev val eg aB),I (v:Int)] []=some (VC (iD n rows v)++ [tb (fb n rows v)]):=by
 have i:=sz.n;have hm:=sz.m;refine ak ?_;rw [Om,cE];unfold iD fb;by_cases h:v < n
 .have h1:(v:Int) < (n:Int):=by omega
  simp only [bT,ai,↓reduceIte,Int.reduceBEq,Int.reduceEq,GD,h,h1,decide_true];rfl
 .have h1:¬(v:Int) < (n:Int):=by omega
  have e:=sX h (by omega);have hi:v - n < rows.length:=by omega
  have d: 0<=((v - n:Nat):Int)/\((v - n:Nat):Int) < (rows.length:Int):=by omega
  have g:=sz.tv _ (jt hi);have b:=zS (bf rows (v - n)).tv (by omega);rw [sF] at b;by_cases a:(bf rows (v - n)).kd=3
  .simp only [ai,↓reduceIte,Int.reduceBEq,Int.reduceEq,GD,h,h1,e,d,and_self,cR,ic (pg hi),b,a,decide_false,decide_true];rfl
  .have c:((bf rows (v - n)).kd==3)=false:=by simpa using a
   simp only [ai,↓reduceIte,Int.reduceBEq,Int.reduceEq,GD,h,h1,e,d,and_self,cR,ic (pg hi),b,a,c,decide_false];rfl
def aI(val:List Vl)(v:Nat):Vl:=val.getD v (none,none)
omit sz in
theorem n8{val:List Vl}{i:Nat}(h:i < val.length):val[i]? =some (aI val i):=by unfold aI;rw [Ul,Up h];rfl
def e9(n:Nat)(rows:List R)(val:List Vl)(v:Nat)(w:Int):Bool:=
 if w > 0 then decide (v < n) || decide (eF (aI val v) (bP n rows v) < 0) else !fb n rows v || decide (eF (aI val v) (iD n rows v) > 0)
theorem z7{m:Nat}(k:val.length=n+rows.length)(hb:∀v,v < n+rows.length->VB m (aI val v))(hm:m<=6200){v:Nat}(hv:v < n+rows.length)(w:Int):
  Or (.call 77) [AV.t (TP n er rows eb ah ev val eg aB),I (v:Int),I w] []=some [tb (e9 n rows val v w)]:=by
 have b:=td sz er eb ev eg ah val aB hv;have k2:=vU sz er eb ev eg ah val aB hv;have g:=vQ (hb v hv) (qK sz hv) (by omega);have j:=vQ (hb v hv) (uU sz hv) (by omega);have e: 0<=(v:Int)/\(v:Int) < (val.length:Int):=by omega
 have d:=np (n8 (val:=val) (i:=v) (by omega));rw [cE] at b k2;simp only [Uo,Uq] at b k2;refine ak ?_;rw [Oj];unfold e9;by_cases a:w > 0
 .by_cases h:v < n
  .simp only [bT,ai,↓reduceIte,Int.reduceBEq,Int.reduceEq,GD,cf,a,b,h,decide_true,Uz,UE,if_true,YD]
   try rfl
  .simp only [ai,↓reduceIte,Int.reduceBEq,Int.reduceEq,GD,cf,a,b,h,decide_false,e,and_self,cN,d,g,if_true,VD,UE,Uz]
 .cases c:fb n rows v
  .rw [c] at k2;simp only [bT,ai,↓reduceIte,Int.reduceBEq,Int.reduceEq,GD,cf,a,k2,Uz,UE,YD]
   try rfl
  .rw [c] at k2;simp only [ai,↓reduceIte,Int.reduceBEq,Int.reduceEq,GD,cf,a,k2,e,and_self,cN,d,j,VD,UE,Uz]
def cM(n:Nat)(rows:List R)(val:List Vl):List Nat->Int×Int->Int×Int
 | [],p=>p
 | b::r,p=>if p.1>=0/\(b:Int) > p.1 then cM n rows val r p else
  if fb n rows b=true/\eF (aI val b) (iD n rows b) < 0 then cM n rows val r (b,1) else
  if ¬b < n/\eF (aI val b) (bP n rows b) > 0 then cM n rows val r (b, -1) else cM n rows val r p
theorem TI{m:Nat}(K:val.length=n+rows.length)(hb:∀v,v < n+rows.length->VB m (aI val v))(hm:m<=6200)(C:∀b∈ah,b < n+rows.length)(H:ah.length<=1000):
  ∀(a:List Nat) (i:Nat) (p:Int×Int),ah.drop i=a->
  Or xx [AV.t (TP n er rows eb ah ev val eg aB),I p.1,I p.2,AV.t (T.aa 1 eb (cS ah)),I (ah.length:Int),I (i:Int)] []=some [ti (cM n rows val a p).1,ti (cM n rows val a p).2]:=by
 intro a;induction a with
 | nil=>
  intro i p h;have h1:¬(i:Int) < (ah.length:Int):=by have:=bu h;omega
  refine ak ?_;rw [oI];simp only [ai,↓reduceIte,Int.reduceBEq,Int.reduceEq,GD,h1,cM]
 | cons b a B=>
  intro i p h;obtain⟨q,J,z⟩:=bq h;have h1:(i:Int) < (ah.length:Int):=by omega
  have d: 0<=(i:Int):=by omega
  have o:=C b (Uj q);have r:=td sz er eb ev eg ah val aB o;have k2:=vU sz er eb ev eg ah val aB o;have w:=vQ (hb b o) (qK sz o) (by omega);have x:=vQ (hb b o) (uU sz o) (by omega);have u: 0<=(b:Int)/\(b:Int) < (val.length:Int):=by omega
  have s:=np (n8 (val:=val) (i:=b) (by omega));rw [cE] at r k2;simp only [Uo,Uq] at r k2;have y:=B (i+1) p z;have F:=B (i+1) ((b:Int),1) z;have G:=B (i+1) ((b:Int), -1) z;by_cases hs:p.1>=0/\(b:Int) > p.1
  .have D:=hs.1;have E:=hs.2;have c:cM n rows val (b::a) p=cM n rows val a p:=by rw [cM,if_pos hs]
   rw [c];refine ak ?_;rw [oI];simp only [ai,↓reduceIte,Int.reduceBEq,Int.reduceEq,GD,h1,d,and_self,df,jJ q,D,E,decide_true,if_true,next i (by omega)];exact y
  .have l:(if p.1>=0 then decide ((b:Int) > p.1) else false)=false:=by
    by_cases A:p.1>=0
    .rw [if_pos A];exact decide_eq_false (λj=>hs ⟨A,j⟩)
    .rw [if_neg A]
   by_cases h:b < n
   .have e:fb n rows b=false:=by simp [fb,h]
    rw [e] at k2;have c:cM n rows val (b::a) p=cM n rows val a p:=by rw [cM,if_neg hs,if_neg (by rw [e];simp),if_neg (λj=>j.1 h)]
    rw [c];refine ak ?_;rw [oI];simp only [bT,ai,↓reduceIte,Int.reduceBEq,Int.reduceEq,GD,cf,h1,d,u,and_self,df,jJ q,l,r,k2,h,decide_true,Uz,cN,s,UK,next i (by omega)];exact y
   .cases e:fb n rows b
    .rw [e] at k2;by_cases g:eF (aI val b) (bP n rows b) > 0
     .have c:cM n rows val (b::a) p=cM n rows val a ((b:Int), -1):=by
       rw [cM,if_neg hs,if_neg (by rw [e];simp),if_pos ⟨h,g⟩]
      rw [c];refine ak ?_;rw [oI];simp only [bT,ai,↓reduceIte,Int.reduceBEq,Int.reduceEq,GD,cf,h1,d,u,and_self,df,jJ q,l,r,k2,h,decide_false,decide_true,UE,cN,s,UK,w,g,next i (by omega)];exact G
     .have c:cM n rows val (b::a) p=cM n rows val a p:=by
       rw [cM,if_neg hs,if_neg (by rw [e];simp),if_neg (λj=>g j.2)]
      rw [c];refine ak ?_;rw [oI];simp only [bT,ai,↓reduceIte,Int.reduceBEq,Int.reduceEq,GD,cf,h1,d,u,and_self,df,jJ q,l,r,k2,h,decide_false,decide_true,UE,cN,s,UK,w,g,next i (by omega)];exact y
    .rw [e] at k2;by_cases k:eF (aI val b) (iD n rows b) < 0
     .have c:cM n rows val (b::a) p=cM n rows val a ((b:Int),1):=by
       rw [cM,if_neg hs,if_pos ⟨e,k⟩]
      rw [c];refine ak ?_;rw [oI];by_cases g:eF (aI val b) (bP n rows b) > 0
      .simp only [ai,↓reduceIte,Int.reduceBEq,Int.reduceEq,GD,cf,h1,d,u,and_self,df,jJ q,l,r,k2,h,decide_false,decide_true,UE,cN,s,w,x,g,k,next i (by omega)];exact F
      .simp only [ai,↓reduceIte,Int.reduceBEq,Int.reduceEq,GD,cf,h1,d,u,and_self,df,jJ q,l,r,k2,h,decide_false,decide_true,UE,cN,s,w,x,g,k,next i (by omega)];exact F
     .by_cases g:eF (aI val b) (bP n rows b) > 0
      .have c:cM n rows val (b::a) p=cM n rows val a ((b:Int), -1):=by
        rw [cM,if_neg hs,if_neg (λj=>k j.2),if_pos ⟨h,g⟩]
       rw [c];refine ak ?_;rw [oI];simp only [ai,↓reduceIte,Int.reduceBEq,Int.reduceEq,GD,cf,h1,d,u,and_self,df,jJ q,l,r,k2,h,decide_false,decide_true,UE,cN,s,w,x,g,k,next i (by omega)];exact G
      .have c:cM n rows val (b::a) p=cM n rows val a p:=by
        rw [cM,if_neg hs,if_neg (λj=>k j.2),if_neg (λj=>g j.2)]
       rw [c];refine ak ?_;rw [oI];simp only [ai,↓reduceIte,Int.reduceBEq,Int.reduceEq,GD,cf,h1,d,u,and_self,df,jJ q,l,r,k2,h,decide_false,decide_true,UE,cN,s,w,x,g,k,next i (by omega)];exact y
def iL(n:Nat)(rows:List R)(val:List Vl)(ah:List Nat):Int×Int:=cM n rows val ah (-1,0)
theorem KU{m:Nat}(d:val.length=n+rows.length)(hb:∀v,v < n+rows.length->VB m (aI val v))(hm:m<=6200)(c:∀b∈ah,b < n+rows.length)(a:ah.length<=1000):
  Or (.call 76) [AV.t (TP n er rows eb ah ev val eg aB)] []=some [ti (iL n rows val ah).1,ti (iL n rows val ah).2]:=by
 have:=TI sz er eb ev eg ah val aB d hb hm c a ah 0 (-1,0) rfl;refine ak ?_;rw [Oi];simp only [df];exact this
end
open Go Go.Aev Go.Aev.Gen Go.Aev.Wd
def bI:Nat->List (List Nm)->List Row
 | _,[]=> []
 | s,x::r=>⟨s,[T.aw],some (false,aR x)⟩::bI (s+1) r
theorem cX:∀(s:Nat) (l:List (List Nm)),(bI s l).length=l.length
 | _,[]=>rfl
 | s,x::r=>by simp [bI,cX (s+1) r]
def az(al:List (List Nm))(i:Nat):List Nm:=al.getD i []
theorem jc{al:List (List Nm)}{i:Nat}(h:i < al.length):al[i]? =some (az al i):=by unfold az;rw [Ul,Up h];rfl
theorem Iq:∀{l:List (List Nm)} {s i:Nat} {x:List Nm},l[i]? =some x->(bI s l)[i]? =some ⟨s+i,[T.aw],some (false,aR x)⟩
 | [],_,_,_,h=>by simp at h
 | y::r,s,0,x,h=>by simp at h;subst h;rfl
 | y::r,s,i+1,x,h=>by have:=Iq (l:=r) (s:=s+1) (i:=i) (x:=x) (by simpa using h);rw [show s+ (i+1)=s+1+i by omega];simpa [bI] using this
theorem lf{al:List (List Nm)}{i:Nat}(h:i < al.length):(bI 0 al)[((i:Nat):Int).toNat]? =some ⟨i,[T.aw],some (false,aR (az al i))⟩:=by have:=Iq (s:=0) (jc h);rw [UW] at this;simpa using this
theorem Hm:∀{l:List (List Nm)} {s i:Nat} {x:List Nm},l[i]? =some x->bB (s+i) (bI s l)=some (false,aR x)
 | [],_,_,_,h=>by simp at h
 | y::r,s,0,x,h=>by simp at h;subst h;simp [bI,bB]
 | y::r,s,i+1,x,h=>by
  have:=Hm (l:=r) (s:=s+1) (i:=i) (x:=x) (by simpa using h);rw [show s+ (i+1)=s+1+i by omega];have a:¬s=s+1+i:=by omega
  simp only [bI,bB,if_neg a];exact this
theorem jL{al:List (List Nm)}{i:Nat}(h:i < al.length):bB i (bI 0 al)=some (false,aR (az al i)):=by have:=Hm (s:=0) (jc h);rwa [UW] at this
theorem Kg:∀{l:List (List Nm)} {s i:Nat} (p:Bool×List (List T)) (y:List Nm),p= (false,aR y)->i < l.length->dG (s+i) (some p) (dG (s+i) none (bI s l))=bI s (l.set i y)
 | [],_,_,_,_,_,h=>by simp at h
 | z::r,s,0,p,y,e,_=>by subst e;simp [bI,dG]
 | z::r,s,i+1,p,y,e,h=>by
  have:=Kg (l:=r) (s:=s+1) (i:=i) p y e (by simpa using h);rw [show s+ (i+1)=s+1+i by omega];have a:¬s=s+1+i:=by omega
  simp only [bI,dG,if_neg a,this,Xm]
theorem Sj{al:List (List Nm)}{i:Nat}(y:List Nm)(h:i < al.length):dG i (some (false,aR y)) (dG i none (bI 0 al))=bI 0 (al.set i y):=by have:=Kg (s:=0) (i:=i) (false,aR y) y rfl h;rwa [UW] at this
theorem IU:∀{l:List (List Nm)} {s i:Nat},i < l.length->lZ (s+i) (dG (s+i) none (bI s l))=some ()
 | [],_,_,h=>by simp at h
 | z::r,s,0,_=>by simp [bI,dG,lZ]
 | z::r,s,i+1,h=>by
  have:=IU (l:=r) (s:=s+1) (i:=i) (by simpa using h);rw [show s+ (i+1)=s+1+i by omega];have a:¬s=s+1+i:=by omega
  simp only [bI,dG,lZ,if_neg a,this]
theorem QI{al:List (List Nm)}{i:Nat}(h:i < al.length):lZ i (dG i none (bI 0 al))=some ():=by have:=IU (s:=0) h;rwa [UW] at this
theorem cF:∀(l:List (List Nm)) (s:Nat),bN (bI s l)=true
 | [],_=>rfl
 | x::r,s=>by
  have:=cF r (s+1);unfold bN at *
  simp [bI,this]
theorem RD(s:Nat)(cs:List T)(p:Bool×List (List T)):ph ⟨s,cs,some p⟩=T.aa 0 p.1 p.2:=rfl
theorem Fs:∀(l:List (List Nm)) (s:Nat),rK s ((bI s l).map λe=> [.ptr e.cs,ph e])=some (bI s l)
 | [],_=>rfl
 | x::r,s=>by have:=Fs r (s+1);simp only [bI,U5,RD,rK];rw [this];rfl
theorem eV(b:Bool)(l:List (List Nm)):kR (bK b (bI 0 l))=some (b,bI 0 l):=by simp only [bK,kR];rw [Fs];rfl
theorem GF:∀(l:List (List Nm)) (s i k:Nat) (y:List Nm),((bI s l).set i ⟨k,[T.aw],some (false,aR y)⟩).map (λe=> [.ptr e.cs,ph e])= (bI s (l.set i y)).map (λe=> [T.ptr e.cs,ph e])
 | [],_,_,_,_=>rfl
 | z::r,s,0,k,y=>by simp [bI,ph]
 | z::r,s,i+1,k,y=>by have:=GF r (s+1) i k y;simp only [bI,Xm,U5,this]
theorem NO(b:Bool)(l:List (List Nm))(i k:Nat)(y:List Nm):bK b ((bI 0 l).set i ⟨k,[T.aw],some (false,aR y)⟩)=bK b (bI 0 (l.set i y)):=by simp only [bK,GF]
theorem Lf(l:List Row)(i k:Nat)(cs:List T)(p:Bool×List (List T))(h:bN l=true):bN (l.set i ⟨k,cs,some p⟩)=true:=by
 unfold bN at *
 rw [UD] at *
 intro x a;rcases U1 a with h1 | h1
 .exact h x h1
 .subst h1;rfl
abbrev Ln:=List (Nat×Nat)
def bW(l:Ln):List (List T×T):=l.map λp=>([ti (p.1:Int)],ti (p.2:Int))
def cg(v:Nat):Ln->Option Nat
 | []=>none
 | p::r=>if v=p.1 then some p.2 else cg v r
def jo(v i:Nat):Ln->Ln
 | []=> [(v,i)]
 | p::r=>if v=p.1 then(v,i)::r else p::jo v i r
def kS(v:Nat):Ln->Ln
 | []=> []
 | p::r=>if v=p.1 then r else p::kS v r
theorem B4(a b:Nat):ei [ti (a:Int)] [ti (b:Int)]=decide (a=b):=by
 by_cases h:a=b
 .subst h;simp [ei,nq]
 .have:¬(a:Int)= (b:Int):=by omega
  simp [ei,nq,h,this]
theorem uF(v:Nat):∀(l:Ln),fy [ti (v:Int)] (bW l)= (cg v l).map λ(i:Nat)=>ti (i:Int)
 | []=>rfl
 | p::r=>by
  have:=uF v r;unfold bW at *
  rw [U5,fy,B4,cg];by_cases h:v=p.1
  .simp [h]
  .simp [h,this]
theorem zB(v i:Nat):∀(l:Ln),gY [ti (v:Int)] (ti (i:Int)) (bW l)=bW (jo v i l)
 | []=>rfl
 | p::r=>by
  have:=zB v i r;unfold bW at *
  rw [U5,gY,B4,jo];by_cases h:v=p.1
  .simp [h]
  .simp [h,this]
theorem Bt(v:Nat):∀(l:Ln),jf [ti (v:Int)] (bW l)=bW (kS v l)
 | []=>rfl
 | p::r=>by
  have:=Bt v r;unfold bW at *
  rw [U5,jf,B4,kS];by_cases h:v=p.1
  .simp [h]
  .simp [h,this]
theorem zj(u v i:Nat):∀(l:Ln),cg u (jo v i l)=if u=v then some i else cg u l
 | []=>by simp [jo,cg]
 | p::r=>by
  have:=zj u v i r;rw [jo];by_cases h:v=p.1
  .rw [if_pos h];simp only [cg];by_cases a:u=v
   .simp [a]
   .have b:¬u=p.1:=by rw [<-h];exact a
    simp [a,b]
  .rw [if_neg h];simp only [cg,this];by_cases a:u=p.1
   .have b:¬u=v:=λe=>h (by rw [<-e,a]);rw [if_pos a,if_neg b,if_pos a]
   .rw [if_neg a,if_neg a]
def ot:Ln->Prop
 | []=>True
 | p::r=>cg p.1 r=none/\ot r
theorem zi(u v:Nat):∀(l:Ln),ot l->cg u (kS v l)=if u=v then none else cg u l
 | [],_=>by simp [kS,cg]
 | p::r,h=>by
  have:=zi u v r h.2;rw [kS];by_cases hv:v=p.1
  .rw [if_pos hv];by_cases a:u=v
   .rw [if_pos a,a,hv];exact h.1
   .rw [if_neg a,cg,if_neg (by rw [<-hv];exact a)]
  .rw [if_neg hv];simp only [cg,this];by_cases a:u=p.1
   .have b:¬u=v:=λe=>hv (by rw [<-e,a]);rw [if_pos a,if_neg b,if_pos a]
   .rw [if_neg a,if_neg a]
theorem Cv(v i:Nat):∀(l:Ln),ot l->ot (jo v i l)
 | [],_=>⟨rfl,trivial⟩
 | p::r,h=>by
  rw [jo];by_cases hv:v=p.1
  .rw [if_pos hv];exact⟨by rw [hv];exact h.1,h.2⟩
  .rw [if_neg hv];refine⟨?_,Cv v i r h.2⟩;rw [zj,if_neg (λe=>hv e.symm)];exact h.1
theorem H8(v:Nat):∀(l:Ln),ot l->ot (kS v l)
 | [],_=>trivial
 | p::r,h=>by
  rw [kS];by_cases hv:v=p.1
  .rw [if_pos hv];exact h.2
  .rw [if_neg hv];refine⟨?_,H8 v r h.2⟩;rw [zi _ _ _ h.2,if_neg (λe=>hv e.symm)];exact h.1
structure TL where
 ah:List Nat
 mp:Ln
 al:List (List Nm)
 val:List Vl
 aB:List Nm
structure Fl where
 er:Bool
 eb:Bool
 ec:Bool
 ev:Bool
 eg:Bool
abbrev S1(n:Nat)(rows:List R)(f:Fl)(t:TL):List ab:=
 [ab.box [I (n:Int),AV.t (T.aa 3 f.er (dC rows)),AV.own (Id.c 1),AV.own (Id.c 2),AV.own (Id.c 3),AV.own (Id.c 4),AV.own (Id.c 5)],ab.sl false 1 f.eb (cS t.ah),ab.mp false [Ck.i .i64] (Ck.i .i64) (bW t.mp),
  ab.rows f.ec 1 0 4 t.al.length (bI 0 t.al),ab.sl false 8 f.ev (dO t.val),ab.sl false 4 f.eg (aR t.aB)]
abbrev S2(n:Nat)(rows:List R)(f:Fl)(t:TL):List ab:=
 [ab.box [I (n:Int),AV.t (T.aa 3 f.er (dC rows)),AV.own (Id.c 1),AV.own (Id.c 2),AV.own (Id.c 6),AV.own (Id.c 4),AV.own (Id.c 5)],ab.sl false 1 f.eb (cS t.ah),ab.mp false [Ck.i .i64] (Ck.i .i64) (bW t.mp),
  ab.dead,ab.sl false 8 f.ev (dO t.val),ab.sl false 4 f.eg (aR t.aB),ab.rows f.ec 1 0 4 t.al.length (bI 0 t.al)]
def gh(n:Nat)(rows:List R)(f:Fl)(t:TL):List T:=
 [ti (n:Int),T.aa 3 f.er (dC rows),T.aw,T.aw,bK f.ec (bI 0 t.al),T.aw,T.aw,T.aa 1 f.eb (cS t.ah),bQ (bW t.mp),T.aa 8 f.ev (dO t.val),T.aa 4 f.eg (aR t.aB)]
theorem eI(n:Nat)(rows:List R)(f:Fl)(t:TL):gh n rows f t= [ti (n:Int),T.aa 3 f.er (dC rows),T.aw,T.aw,bK f.ec (bI 0 t.al),T.aw,T.aw,T.aa 1 f.eb (cS t.ah),bQ (bW t.mp),T.aa 8 f.ev (dO t.val),T.aa 4 f.eg (aR t.aB)]:=rfl
theorem cH{a:Type}(k:Unit->Option a):ae none (if(true:Bool)=true then some () else none) k=k ():=by rw [if_pos rfl];rfl
open Go Go.Aev Go.Aev.Gen Go.Aev.Wd
def aq(l:List Nm)(v:Nat):Nm:=l.getD v none
theorem gA{l:List Nm}{i:Nat}(h:i < l.length):l[i]? =some (aq l i):=by unfold aq;rw [Ul,Up h];rfl
def gV(v:Nat)(a:Vl):List Nat->List (List Nm)->List Vl->List Vl
 | b::bs,x::xs,val=>gV v a bs xs (val.set b (kN (aI val b) (fB a (aq x v))))
 | _,_,val=>val
theorem qM{val:List Vl}{i:Nat}(h:i < val.length)(x:Vl)(j:Nat):aI (val.set i x) j=if j=i then x else aI val j:=by
 unfold aI;rw [Ul,Ul,VG];by_cases a:j=i
 .subst a;simp [h]
 .have:¬i=j:=λe=>a e.symm;simp [a,this]
theorem nF{m k:Nat}{a:Vl}{b:Nm}(c:VB m a)(hb:QB k (nv b)):VB (m+k) (fB a b):=⟨c.1.mul hb,c.2.mul hb⟩
theorem sW{m k:Nat}{a b:Vl}(c:VB m a)(hb:VB k b):VB (m+k+1) (nX a b):=⟨c.1.sub hb.1,c.2.sub hb.2⟩
abbrev xQ(v:Vl):ab:=ab.box [B (decide ((nv v.1).num < 0)),AV.t (T.str (bJ (dz (nv v.1).num))),B (nc v.1),AV.t (T.str (nd v.1)),B (decide ((nv v.2).num < 0)),AV.t (T.str (bJ (dz (nv v.2).num))),B (nc v.2),AV.t (T.str (nd v.2))]
structure cL (n m:Nat) (t:TL):Prop where
 b:t.ah.length=m
 c:t.al.length=m
 r:∀x∈t.al,x.length=n+m
 v:t.val.length=n+m
 lt:∀b∈t.ah,b < n+m
 nd:t.ah.Nodup
theorem cL.row{n m:Nat}{t:TL}(h:cL n m t){i:Nat}(hi:i < m):(az t.al i).length=n+m:=h.r _ (Uj (jc (by rw [h.c];exact hi)))
theorem Iu(v:Nat)(a:Vl):∀(bs:List Nat) (xs:List (List Nm)) (val:List Vl),(gV v a bs xs val).length=val.length
 | [],_,_=>by simp [gV]
 | _::_,[],_=>by simp [gV]
 | b::bs,x::xs,val=>by rw [gV,Iu];simp
section
variable {n:Nat} {rows:List R} (f:Fl) (t:TL)
theorem TK{m k l:Nat}(d:cL n m t){v:Nat}{w:Vl}(hv:v < n+m)(hm:m<=40)
  (J:VB k w) (u:∀x∈t.al,QB l (nv (aq x v))) {a:Nat} (N:a+ (k+l)+1<=6300):
  ∀(bs:List Nat) (xs:List (List Nm)) (i:Nat) (val:List Vl),t.ah.drop i=bs->t.al.drop i=xs->val.length=n+m->(∀b∈bs,VB a (aI val b))->
  Or AJ [r0,I (v:Int),AV.ref (Id.c 6) 0,AV.own (Id.c 1),I (t.ah.length:Int),I (i:Int)] (S1 n rows f ⟨t.ah,t.mp,t.al,val,t.aB⟩ ++ [xQ w])=some (gh n rows f ⟨t.ah,t.mp,t.al,gV v w bs xs val,t.aB⟩):=by
 intro bs;induction bs with
 | nil=>
  intro xs i val hb p D o;have h1:¬(i:Int) < (t.ah.length:Int):=by have:=bu hb;omega
  have E:gV v w [] xs val=val:=by cases xs <;> rfl
  rw [E,eI];refine ak ?_;simp only [Uo,Uq];rw [GV];simp only [ai,↓reduceIte,Int.reduceBEq,Int.reduceEq,GD,h1,cF,cH]
 | cons b bs O=>
  intro xs i val hb p D o;obtain⟨q,W,M⟩:=bq hb;have T:=d.b;have U:=d.c;cases xs with
  | nil=>have:=bu p;omega
  | cons x xs=>
   obtain⟨g,x2,Q⟩:=bq p;have V:=d.r x (Uj g);have S:=d.lt b (Uj q);have h1:(i:Int) < (t.ah.length:Int):=by omega
   have B: 0<=(i:Int):=by omega
   have C:(i:Int) < (t.al.length:Int):=by omega
   have s: 0<=(b:Int)/\(b:Int) < (val.length:Int):=by omega
   have H: 0<=(v:Int)/\(v:Int) < (x.length:Int):=by omega
   have y:az t.al i=x:=by have:=jc (al:=t.al) (i:=i) (by omega);rw [g] at this;exact(Vb this).symm
   have A:=lf (al:=t.al) (i:=i) (by omega);have z:=jL (al:=t.al) (i:=i) (by omega);rw [y] at A z;have K:=pq J (u x (Uj g)) (by omega);have G:=o b Uk;have k2:=KC G (nF J (u x (Uj g))) N;have P:=GC (l:=val) (i:=b) (by omega) (kN (aI val b) (fB w (aq x v)));rw [cE] at K k2;have j:=d.nd;rw [<-Xw i t.ah,hb] at j;have F:b∉bs:=(VE.1 (Wb.1 j).2.1).1;have:=O xs (i+1) (val.set b (kN (aI val b) (fB w (aq x v)))) M Q (by rw [Vc];exact D) (λL h=>by
    rw [qM (by omega),if_neg (λe=>F (by rw [<-e];exact h))];exact o L (Um _ h))
   simp only [Uo,Uq] at this;rw [gV];refine ak ?_;simp only [Uo,Uq];rw [GV];simp only [ai,↓reduceIte,Int.reduceBEq,Int.reduceEq,GD,h1,B,C,and_self,df,jJ q,s,cN,np (n8 (val:=val) (i:=b) (by omega)),cX,A,z,H,bH,cu (gA (l:=x) (i:=v) (by omega)),K,k2,P,next i (by omega)];exact this
def dP(v:Nat)(w:Vl)(t:TL):TL:=⟨t.ah,t.mp,t.al,gV v w t.ah t.al (t.val.set v (kN (aI t.val v) w)),t.aB⟩
theorem te{m k l:Nat}(c:cL n m t){v:Nat}{w:Vl}(hv:v < n+m)(hm:m<=40)(g:v∉t.ah)
  (o:VB k w) (r:∀x∈t.al,QB l (nv (aq x v))) {a:Nat} (q:a+ (k+l)+1<=6300) (d:∀u,u < n+m->VB a (aI t.val u)):
  Or (.call 84) [r0,I (v:Int),EV w] (S1 n rows f t)=some (gh n rows f (dP v w t)):=by
 have h:=c.v;have p:=KC (d v hv) o (by omega);rw [cE] at p;have s:=GC (l:=t.val) (i:=v) (by omega) (kN (aI t.val v) w);have j: 0<=(v:Int)/\(v:Int) < (t.val.length:Int):=by omega
 have:=TK (n:=n) (rows:=rows) f t c hv hm o r q t.ah t.al 0 (t.val.set v (kN (aI t.val v) w)) rfl rfl (by rw [Vc];exact h) (λb hb=>by
  rw [qM (by omega),if_neg (λe=>g (by rw [<-e];exact hb))];exact d b (c.lt b hb))
 simp only [Uo,Uq] at this;refine ak ?_;rw [Oq];simp only [ai,↓reduceIte,Int.reduceBEq,Int.reduceEq,GD,j,and_self,cN,np (n8 (val:=t.val) (i:=v) (by omega)),p,s,df];exact this
end
open Go Go.Aev Go.Aev.Gen Go.Aev.Wd
def pl(x y:Nm):Nm:=some (nv x+nv y)
def mi(x y:Nm):Nm:=some (nv x - nv y)
def tm(x y:Nm):Nm:=some (nv x * nv y)
def ov(x y:Nm):Nm:=some (nv x / nv y)
def ng(x:Nm):Nm:=some (-(nv x))
def iN(x:Int):Nm:=some (x:Rat)
theorem QO(x y:Nm):nv (tm x y)=nv x * nv y:=rfl
abbrev QN(m:Nat)(x:Nm):Prop:=QB m (nv x)
abbrev NL(x:Nm):List T:= [tb (decide ((nv x).num < 0)),T.str (bJ (dz (nv x).num)),tb (nc x),T.str (nd x)]
theorem nI{m k:Nat}{x y:Nm}(a:QN m x)(b:QN k y)(h:m+k+1<=6300):Or (.call 63) [EN x,EN y] []=some (NL (pl x y)):=zT a b h
theorem C0{m k:Nat}{x y:Nm}(a:QN m x)(b:QN k y)(h:m+k+1<=6300):Or (.call 121) [EN x,EN y] []=some (NL (mi x y)):=DO a b h
theorem l9{m k:Nat}{x y:Nm}(a:QN m x)(b:QN k y)(h:m+k<=6300):Or (.call 64) [EN x,EN y] []=some (NL (tm x y)):=DP a b h
theorem mO{m k:Nat}{x y:Nm}(b:QN m x)(c:QN k y)(h:m+k<=6300)(a:nv y≠0):Or (.call 83) [EN x,EN y] []=some (NL (ov x y))/\QN (m+k) (ov x y):=SQ b c h a
theorem CZ(x:Nm):Or (.call 120) [EN x] []=some (NL (ng x)):=KB x
theorem fK(x:Int)(h: -9223372036854775808<=x/\x < 9223372036854775808):Or (.call 32) [I x] []=some (NL (iN x)):=zS x h
theorem fY(q:Rat):q.num.sign=0↔q=0:=by rw [XR,Yg]
abbrev ix(x:Nm):ab:=ab.box [B (decide ((nv x).num < 0)),AV.t (T.str (bJ (dz (nv x).num))),B (nc x),AV.t (T.str (nd x))]
def iH(c:Nm):List Nm->List Nm->List Nm
 | r::b,y::a=>(if nv r=0 then y else pl y (tm c r))::iH c b a
 | _,a=>a
def jy(row:List Nm)(v:Nat)(l:List Nm):List Nm:=if nv (aq l v)=0 then l else iH (aq l v) row (l.set v none)
theorem qF{c:Type}(a:List c)(b v:c)(r:List c)(i:Nat)(h:a.length=i):(a++b::r).set i v=a++v::r:=by subst h;simp
theorem S8{mr ml mc:Nat}(e0 e3:Bool)(v:Nat)(c:Nm)(row:List Nm)(z:QN mc c)(F:∀x∈row,QN mr x)(hs:ml+ (mc+mr)+1<=6300)(hrl:row.length<=100):
  ∀(d a b:List Nm) (k:Nat),row.drop k=d->b.length=k->d.length=a.length->(∀y∈a,QN ml y)->
  Or tL [AV.own (Id.c 0),AV.ref (Id.c 4) 0,AV.own (Id.c 3),I (row.length:Int),I (k:Int)] [ab.sl false 4 e0 (aR (b++a)),ab.box [I (v:Int)],ab.box [AV.own (Id.c 3)],ab.sl false 4 e3 (aR row),ix c]=
   some [T.aa 4 e0 (aR (b++iH c d a)),ti (v:Int),T.aw,T.aa 4 e3 (aR row)]:=by
 intro d;induction d with
 | nil=>
  intro a b k h q m hy;have h1:¬(k:Int) < (row.length:Int):=by have:=bu h;omega
  have e:iH c [] a=a:=rfl;rw [e];refine ak ?_;rw [BR];simp only [ai,↓reduceIte,Int.reduceBEq,Int.reduceEq,GD,h1]
 | cons r d C=>
  intro a b k h q m hy;obtain⟨p,K,w⟩:=bq h;cases a with
  | nil=>simp at m
  | cons y a=>
   have h1:(k:Int) < (row.length:Int):=by omega
   have o: 0<=(k:Int):=by omega
   have J:(b++y::a).length=k+1+a.length:=by simp;omega
   have B:(k:Int) < ((b++y::a).length:Int):=by omega
   have A:(b++y::a)[k]? =some y:=by rw [Vq (by omega),q,W2];rfl
   have q1:=F r (Uj p);have H:=hy y Uk;have ks:=lH r;by_cases j:nv r=0
   .have e:iH c (r::d) (y::a)=y::iH c d a:=by rw [iH,if_pos j]
    have g:=(fY (nv r)).2 j;have:=C a (b++ [y]) (k+1) w (by simp;omega) (by simpa using m) (λu s=>hy u (Um _ s));simp only [UR,Uo,Uq] at this;rw [e];refine ak ?_;rw [BR];simp only [ai,↓reduceIte,Int.reduceBEq,Int.reduceEq,GD,h1,o,and_self,bH,cu p,ks,g,next k (by omega)];exact this
   .have e:iH c (r::d) (y::a)=pl y (tm c r)::iH c d a:=by rw [iH,if_neg j]
    have g:¬(nv r).num.sign=0:=λE=>j ((fY _).1 E);have G:=l9 z q1 (by omega);have k2:=nI (x:=y) (y:=tm c r) H (z.mul q1) hs;have D:=kj (l:=b++y::a) (i:=k) (by omega) (pl y (tm c r));rw [qF _ _ _ _ _ q] at D;have:=C a (b++ [pl y (tm c r)]) (k+1) w (by simp;omega) (by simpa using m) (λu s=>hy u (Um _ s));simp only [UR,Uo,Uq] at this;rw [e];refine ak ?_;rw [BR];simp only [ai,↓reduceIte,Int.reduceBEq,Int.reduceEq,GD,h1,o,B,and_self,bH,cu p,cu A,ks,g,G,k2,D,next k (by omega)];exact this
theorem KR{mr ml:Nat}(e0 e3:Bool)(v:Nat)(row l:List Nm)(m:∀x∈row,QN mr x)(g:∀x∈l,QN ml x)(hs:ml+ (ml+mr)+1<=6300)(hrl:row.length<=100)(h:row.length=l.length)(hv:v < l.length):
  Or (.call 123) [AV.own (Id.c 0),AV.ref (Id.c 1) 0,AV.ref (Id.c 2) 0] [ab.sl false 4 e0 (aR l),ab.box [I (v:Int)],ab.box [AV.own (Id.c 3)],ab.sl false 4 e3 (aR row)]=
   some [T.aa 4 e0 (aR (jy row v l)),ti (v:Int),T.aw,T.aa 4 e3 (aR row)]:=by
 have d: 0<=(v:Int)/\(v:Int) < (l.length:Int):=by omega
 have e:=gA hv;have ks:=lH (aq l v);unfold jy;by_cases b:nv (aq l v)=0
 .have a:=(fY (nv (aq l v))).2 b;rw [if_pos b];refine ak ?_;rw [GI];simp only [ai,↓reduceIte,Int.reduceBEq,Int.reduceEq,GD,d,and_self,bH,cu e,ks,a]
 .have a:¬(nv (aq l v)).num.sign=0:=λk=>b ((fY _).1 k);have j:=kj (l:=l) (i:=v) hv none;rw [show [tb (decide ((nv none).num < 0)),T.str (bJ (dz (nv none).num)),tb (nc none),T.str (nd none)]= [tb false,T.str (ByteArray.mk #[]),tb false,T.str (ByteArray.mk #[])] from rfl] at j;have:=S8 (mr:=mr) (ml:=ml) (mc:=ml) e0 e3 v (aq l v) row (g _ (Uj e)) m hs hrl row (l.set v none) [] 0 rfl rfl (by simpa using h) (λy hy=>by
   rcases U1 hy with h1 | h1
   .exact g y h1
   .subst h1;exact iI _)
  simp only [Uq] at this;rw [if_neg b];refine ak ?_;rw [GI];simp only [ai,↓reduceIte,Int.reduceBEq,Int.reduceEq,GD,d,and_self,bH,cu e,ks,a,j];exact this
def fX(row:List Nm)(v i:Nat):Nat->List (List Nm)->List (List Nm)
 | _,[]=> []
 | k,x::xs=>(if k=i then x else jy row v x)::fX row v i (k+1) xs
def cC(x:List Nm)(v b:Nat):List Nm:=((x.map λy=>ng (ov y (aq x v))).set v none).set b (ov (iN 1) (aq x v))
def fg(i v b:Nat)(row:List Nm)(eg:Bool)(t:TL):TL:=
 ⟨t.ah.set i v,jo v i (kS b t.mp),(fX row v i 0 t.al).set i row,t.val,if eg then t.aB else jy row v t.aB⟩
theorem DA(row:List Nm)(v i:Nat):∀(xs:List (List Nm)) (k:Nat),(fX row v i k xs).length=xs.length
 | [],_=>rfl
 | x::xs,k=>by simp [fX,DA row v i xs (k+1)]
section
variable {n:Nat} {rows:List R} (f:Fl) (t:TL)
theorem TM{m mr ml:Nat}(L:cL n m t)(S:n<=12)(hm:m<=40){i v b:Nat}(hi:i < m)(hv:v < n+m)(hb:t.ah[i]? =some b)(row:List Nm)(hrl:row.length=n+m)
  (K:∀x∈row,QN mr x) (Q:∀x∈t.al,∀y∈x,QN ml y) (N:f.eg=false->t.aB.length=n+m/\∀y∈t.aB,QN ml y) (hs:ml+ (ml+mr)+1<=6300):
  ∀(xs a:List (List Nm)) (k:Nat),a.length=k->a.length+xs.length=m->(∀x∈xs,x.length=n+m/\∀y∈x,QN ml y)->
  Or tO [r0,I (i:Int),AV.ref (Id.c 6) 0,I (b:Int),AV.ref (Id.c 7) 0,AV.fn 123 [] [AV.ref (Id.c 6) 0,AV.ref (Id.c 7) 0],I (m:Int),I (k:Int)]
   (S1 n rows f ⟨t.ah,t.mp,a++xs,t.val,t.aB⟩ ++ [ab.box [I (v:Int)],ab.box [AV.own (Id.c 8)],ab.sl false 4 false (aR row)])=
   some (gh n rows f ⟨t.ah.set i v,jo v i (kS b t.mp),(a++fX row v i k xs).set i row,t.val,if f.eg then t.aB else jy row v t.aB⟩):=by
 intro xs;have P:=L.b;induction xs with
 | nil=>
  intro a k w g j;simp only [UX,Xd] at g;have h1:¬(k:Int) < (m:Int):=by omega
  have p: 0<=(i:Int)/\(i:Int) < (a.length:Int):=by omega
  have q: 0<=(i:Int)/\(i:Int) < (t.ah.length:Int):=by omega
  have d:=lf (al:=a) (i:=i) (by omega);have kb:=NM (l:=t.ah) (i:=i) (by omega) v;have h:((i:Nat):Int).toNat=i:=by omega
  rw [h] at d kb;have C:=Lf (bI 0 a) i a.length [T.aw] (false,aR row) (cF _ _);have E:=NO f.ec a i a.length row;have e:fX row v i k []= []:=rfl;rw [eI,e,Ve];refine ak ?_;simp only [Uo,Uq];rw [B0];cases F:f.eg
  .obtain⟨gl,gq⟩:=N F;have B:=KR (e0:=false) (e3:=false) v row t.aB K gq hs (by omega) (by omega) (by omega);simp only [ai,↓reduceIte,Int.reduceBEq,Int.reduceEq,GD,h1,p,q,and_self,cX,df,h,d,kb,B,Ut,Bt,zB,C,E,cH];rfl
  .simp only [ai,↓reduceIte,Int.reduceBEq,Int.reduceEq,GD,h1,p,q,and_self,cX,df,h,d,kb,Ut,Bt,zB,C,E,cH]
   try rfl
 | cons x xs M=>
  intro a k w g j;simp only [UH] at g;have h1:(k:Int) < (m:Int):=by omega
  have G: 0<=(k:Int)/\(k:Int) < ((a++x::xs).length:Int):=by simp;omega
  have D:az (a++x::xs) k=x:=by unfold az;rw [Ul,Vq (by omega),w,W2];rfl
  have d:=lf (al:=a++x::xs) (i:=k) (by simp;omega);have o:=jL (al:=a++x::xs) (i:=k) (by simp;omega);rw [D] at d o;obtain⟨U,O⟩:=j x Uk;by_cases r:k=i
  .subst r;have:=M (a++ [x]) (k+1) (by simp;omega) (by simp;omega) (λu A=>j u (Um _ A));simp only [UR,Uo,Uq] at this;have e:fX row v k k (x::xs)=x::fX row v k (k+1) xs:=by rw [fX,if_pos rfl]
   rw [e];refine ak ?_;simp only [Uo,Uq];rw [B0];simp only [ai,↓reduceIte,Int.reduceBEq,Int.reduceEq,GD,h1,next k (by omega)];exact this
  .have z:¬(k:Int)= (i:Int):=by omega
   have B:=KR (e0:=false) (e3:=false) v row x K O hs (by omega) (by omega) (by omega);have s:=Sj (al:=a++x::xs) (i:=k) (jy row v x) (by simp;omega);have J:=QI (al:=a++x::xs) (i:=k) (by simp;omega);rw [qF _ _ _ _ _ w] at s;have:=M (a++ [jy row v x]) (k+1) (by simp;omega) (by simp;omega) (λu A=>j u (Um _ A));simp only [UR,Uo,Uq] at this;have e:fX row v i k (x::xs)=jy row v x::fX row v i (k+1) xs:=by rw [fX,if_neg r]
   have H:(a++jy row v x::xs).length= (a++x::xs).length:=by simp
   rw [e];refine ak ?_;simp only [Uo,Uq];rw [B0];simp only [ai,↓reduceIte,Int.reduceBEq,Int.reduceEq,GD,h1,z,G,and_self,cX,d,o,B,Ut,J,s,next k (by omega)];rw [H] at this;exact this
theorem TN{m mc:Nat}(d:cL n m t)(L:n<=12)(hm:m<=40){i v b:Nat}(hi:i < m)(hv:v < n+m)(hb:t.ah[i]? =some b)
  (e:∀x∈t.al,∀y∈x,QN mc y) (s:nv (aq (az t.al i) v)≠0) (K:f.eg=false->t.aB.length=n+m/\∀y∈t.aB,QN mc y) (hs:mc+ (mc+ (2 * mc+10))+1<=6300):
  ∀(xs:List Nm) (k:Nat),(az t.al i).drop k=xs->
  Or xy [r0,I (i:Int),AV.ref (Id.c 6) 0,I (b:Int),AV.ref (Id.c 7) 0,AV.ref (Id.c 8) 0,AV.row (Id.c 3) i,I ((az t.al i).length:Int),I (k:Int)]
   (S1 n rows f t++ [ab.box [I (v:Int)],ix (aq (az t.al i) v),ab.box [AV.own (Id.c 9)],ab.sl false 4 false (aR (((az t.al i).take k).map (λy=>ng (ov y (aq (az t.al i) v)))++List.replicate xs.length none))])=
   some (gh n rows f (fg i v b (cC (az t.al i) v b) f.eg t)):=by
 have j:=d.c;have M:=d.row hi;have S:b < n+m:=d.lt b (Uj hb);have A:=jL (al:=t.al) (i:=i) (by omega);have g:az t.al i∈t.al:=Uj (jc (by omega));have w:QN mc (aq (az t.al i) v):=e _ g _ (Uj (gA (by omega)));intro xs;induction xs with
 | nil=>
  intro k h;have h1:¬(k:Int) < ((az t.al i).length:Int):=by have:=bu h;omega
  have G:(az t.al i).take k=az t.al i:=Vh (by have:=bu h;omega);have V:((az t.al i).map (λy=>ng (ov y (aq (az t.al i) v)))).length=n+m:=by simp;omega
  have H: 0<=(v:Int)/\(v:Int) < (((az t.al i).map (λy=>ng (ov y (aq (az t.al i) v)))).length:Int):=by omega
  have z: 0<=(b:Int)/\(b:Int) < ((((az t.al i).map (λy=>ng (ov y (aq (az t.al i) v)))).set v none).length:Int):=by rw [Vc];omega
  have u:=fK 1 (by omega);have q1:QN 2 (iN 1):=eu (by decide);obtain⟨k2,O⟩:=mO q1 w (by omega) s;have p:=kj (l:=(az t.al i).map (λy=>ng (ov y (aq (az t.al i) v)))) (i:=v) (by omega) none;rw [show [tb (decide ((nv none).num < 0)),T.str (bJ (dz (nv none).num)),tb (nc none),T.str (nd none)]= [tb false,T.str (ByteArray.mk #[]),tb false,T.str (ByteArray.mk #[])] from rfl] at p;have Q:=kj (l:=((az t.al i).map (λy=>ng (ov y (aq (az t.al i) v)))).set v none) (i:=b) (by rw [Vc];omega) (ov (iN 1) (aq (az t.al i) v));have E:∀x∈cC (az t.al i) v b,QN (2 * mc+10) x:=by
   intro x a;unfold cC at a;rcases U1 a with a | a
   .rcases U1 a with a | a
    .obtain⟨y,hy,rfl⟩:=UT.1 a;exact((mO (e _ g y hy) w (by omega) s).2).neg.mono (by omega)
    .subst a;exact iI _
   .subst a;exact O.mono (by omega)
  have D:(cC (az t.al i) v b).length=n+m:=by unfold cC;simp;omega
  have:=TM (n:=n) (rows:=rows) (ml:=mc) f t d L hm hi hv hb (cC (az t.al i) v b) D E e K hs t.al [] 0 rfl (by simpa using j) (λx a=>⟨d.r x a,e x a⟩);simp only [Uo,Uq] at this;rw [G];simp only [UX,VW,Ve];refine ak ?_;simp only [Uo,Uq];rw [GW];simp only [ai,↓reduceIte,Int.reduceBEq,Int.reduceEq,GD,h1,H,z,and_self,bH,p,Q,u,k2,cX,j];rw [j] at this;exact this
 | cons x xs N=>
  intro k h;obtain⟨q,W,J⟩:=bq h;have h1:(k:Int) < ((az t.al i).length:Int):=by omega
  have B: 0<=(k:Int):=by omega
  have o:(((az t.al i).take k).map (λy=>ng (ov y (aq (az t.al i) v)))).length=k:=by simp;omega
  have U:(((az t.al i).take k).map (λy=>ng (ov y (aq (az t.al i) v)))++List.replicate (x::xs).length none).length= (az t.al i).length:=by rw [Vu,o,We];have:=congrArg List.length h;simp only [Wj] at this;omega
  have C:(k:Int) < ((((az t.al i).take k).map (λy=>ng (ov y (aq (az t.al i) v)))++List.replicate (x::xs).length none).length:Int):=by omega
  have P:=e _ g x (Uj q);obtain⟨u,q1⟩:=mO P w (by omega) s;have k2:=CZ (ov x (aq (az t.al i) v));have p:=kj (l:=((az t.al i).take k).map (λy=>ng (ov y (aq (az t.al i) v)))++List.replicate (x::xs).length none) (i:=k) (by omega) (ng (ov x (aq (az t.al i) v)))
  have F:(((az t.al i).take k).map (λy=>ng (ov y (aq (az t.al i) v)))++List.replicate (x::xs).length none).set k (ng (ov x (aq (az t.al i) v)))=
    ((az t.al i).take (k+1)).map (λy=>ng (ov y (aq (az t.al i) v)))++List.replicate xs.length none:=by
   rw [UH,U7,qF _ _ _ _ _ o,W6,q,Wg];simp
  rw [F] at p;have:=N (k+1) J;simp only [Uo,Uq] at this;refine ak ?_;simp only [Uo,Uq];rw [GW];simp only [ai,↓reduceIte,Int.reduceBEq,Int.reduceEq,GD,h1,B,C,and_self,A,bH,cu q,u,k2,p,next k (by omega)];exact this
theorem qe{k:Nat}(h:k<=100000):br (k:Int) (k:Int)=some ():=by unfold br;rw [if_pos ⟨by omega,by omega,by unfold cZ;omega⟩]
theorem tg{m mc:Nat}(a:cL n m t)(w:n<=12)(hm:m<=40){i v b:Nat}(hi:i < m)(hv:v < n+m)(hb:t.ah[i]? =some b)
  (s:∀x∈t.al,∀y∈x,QN mc y) (r:nv (aq (az t.al i) v)≠0) (u:f.eg=false->t.aB.length=n+m/\∀y∈t.aB,QN mc y) (hs:mc+ (mc+ (2 * mc+10))+1<=6300):
  Or (.call 85) [r0,I (i:Int),I (v:Int)] (S1 n rows f t)=some (gh n rows f (fg i v b (cC (az t.al i) v b) f.eg t)):=by
 have B:=a.c;have A:=a.b;have z:=a.row hi;have h: 0<=(i:Int)/\(i:Int) < (t.ah.length:Int):=by omega
 have j: 0<=(i:Int)/\(i:Int) < (t.al.length:Int):=by omega
 have q: 0<=(v:Int)/\(v:Int) < ((az t.al i).length:Int):=by omega
 have e:=lf (al:=t.al) (i:=i) (by omega);have d:=jL (al:=t.al) (i:=i) (by omega);have g:=cu (gA (l:=az t.al i) (i:=v) (by omega));have o:=qe (k:=(az t.al i).length) (by omega);have:=TN (n:=n) (rows:=rows) f t a w hm hi hv hb s r u hs (az t.al i) 0 rfl;have p:(((az t.al i).length:Nat):Int).toNat= (az t.al i).length:=by omega
 simp only [Uo,Uq,Xb,Xf] at this;refine ak ?_;rw [Ot];simp only [ai,↓reduceIte,Int.reduceBEq,Int.reduceEq,GD,h,j,q,and_self,df,jJ hb,cX,e,d,bH,g,o,p,rT];exact this
end
open Go Go.Aev Go.Aev.Gen Go.Aev.Wd
def gZ(n:Nat)(s:Nm):List Nm->Nat->List Nm->List Nm
 | [],_,a=>a
 | x::xs,v,a=>if nv x=0 then gZ n s xs (v+1) a else gZ n s xs (v+1) (a.set (v - n) (ng (tm x s)))
def jr(n m:Nat)(aj:Int)(b:Nat)(row:List Nm):List Nm:=gZ n (iN (-aj)) row 0 ((List.replicate m none).set (b - n) (iN (-aj)))
theorem Dk(n:Nat)(s:Nm):∀(xs:List Nm) (v:Nat) (a:List Nm),(gZ n s xs v a).length=a.length
 | [],_,_=>rfl
 | x::xs,v,a=>by
  rw [gZ];split
  .exact Dk n s xs _ _
  .rw [Dk n s xs];simp
section
variable {n:Nat} {rows:List R} (f:Fl) (t:TL)
theorem TJ{mc:Nat}(o:cL n rows.length t)(L:n<=12)(hm:rows.length<=40){i:Nat}(hi:i < rows.length){s:Nm}(w:QN 2 s)
  (B:∀y∈az t.al i,QN mc y) (hz:∀v,v < n->nv (aq (az t.al i) v)=0) (hs:mc+2<=6300):
  ∀(xs:List Nm) (k:Nat) (a:List Nm),(az t.al i).drop k=xs->a.length=rows.length->
  Or tN [r0,AV.own (Id.c 6),AV.ref (Id.c 7) 0,AV.row (Id.c 3) i,I ((az t.al i).length:Int),I (k:Int)] (S1 n rows f t++ [ab.sl false 4 false (aR a),ix s])=
   some (T.aa 4 false (aR (gZ n s xs k a))::gh n rows f t):=by
 have J:=o.c;have D:=o.row hi;have j:=jL (al:=t.al) (i:=i) (by omega);intro xs;induction xs with
 | nil=>
  intro k a h p;have h1:¬(k:Int) < ((az t.al i).length:Int):=by have:=bu h;omega
  rw [gZ,eI];refine ak ?_;simp only [Uo,Uq];rw [BZ];simp only [ai,↓reduceIte,Int.reduceBEq,Int.reduceEq,GD,h1,cF,cH]
 | cons x xs z=>
  intro k a h p;obtain⟨g,K,q⟩:=bq h;have h1:(k:Int) < ((az t.al i).length:Int):=by omega
  have m: 0<=(k:Int):=by omega
  have ks:=lH x;have H:=B x (Uj g);by_cases b:nv x=0
  .have e:=(fY (nv x)).2 b;have d:gZ n s (x::xs) k a=gZ n s xs (k+1) a:=by rw [gZ,if_pos b]
   have:=z (k+1) a q p;simp only [Uo,Uq] at this;rw [d];refine ak ?_;simp only [Uo,Uq];rw [BZ];simp only [ai,↓reduceIte,Int.reduceBEq,Int.reduceEq,GD,h1,m,and_self,j,bH,cu g,ks,e,next k (by omega)];exact this
  .have e:¬(nv x).num.sign=0:=λA=>b ((fY _).1 A);have d:gZ n s (x::xs) k a=gZ n s xs (k+1) (a.set (k - n) (ng (tm x s))):=by rw [gZ,if_neg b]
   have r:¬k < n:=λC=>b (by
    have:=hz k C;unfold aq at this;rw [Ul,g] at this;exact this)
   have E:=sX r (by omega);have F:=l9 H w hs;have k2:=CZ (tm x s);have u: 0<=((k - n:Nat):Int)/\((k - n:Nat):Int) < (a.length:Int):=by omega
   have G:=kj (l:=a) (i:=k - n) (by omega) (ng (tm x s));have:=z (k+1) (a.set (k - n) (ng (tm x s))) q (by rw [Vc];exact p);simp only [Uo,Uq] at this;rw [d];refine ak ?_;simp only [Uo,Uq];rw [BZ];simp only [ai,↓reduceIte,Int.reduceBEq,Int.reduceEq,GD,h1,m,and_self,j,bH,cu g,ks,e,E,u,F,k2,G,next k (by omega)];exact this
theorem KV{mc:Nat}(a:cL n rows.length t)(w:n<=12)(hm:rows.length<=40){i b:Nat}(hi:i < rows.length)(hb:t.ah[i]? =some b)(C:n<=b){aj:Int}(q:aj=1\/aj= -1)
  (u:∀y∈az t.al i,QN mc y) (hz:∀v,v < n->nv (aq (az t.al i) v)=0) (hs:mc+2<=6300):
  Or (.call 78) [r0,I (i:Int),I aj] (S1 n rows f t)=some (T.aa 4 false (aR (jr n rows.length aj b (az t.al i)))::gh n rows f t):=by
 have D:=a.c;have B:=a.b;have A:=a.lt b (Uj hb);have d:=qe (k:=(dC rows).length) (by rw [cR];omega);rw [cR] at d;have s:i64.wrap (0 - aj)= -aj:=by rw [Go.Aev.wr (by omega)];omega
 have x:=fK (-aj) (by omega);have h: 0<=(i:Int)/\(i:Int) < (t.ah.length:Int):=by omega
 have j: 0<=(i:Int)/\(i:Int) < (t.al.length:Int):=by omega
 have r:=sX (v:=b) (n:=n) (by omega) (by omega);have p:((rows.length:Nat):Int).toNat=rows.length:=by omega
 have m: 0<=((b - n:Nat):Int)/\((b - n:Nat):Int) < ((List.replicate rows.length (none:Nm)).length:Int):=by rw [We];omega
 have z:=kj (l:=List.replicate rows.length none) (i:=b - n) (by rw [We];omega) (iN (-aj));have g:=lf (al:=t.al) (i:=i) (by omega);have e:=jL (al:=t.al) (i:=i) (by omega);have o:QN 2 (iN (-aj)):=by rcases q with rfl | rfl <;> exact eu (by decide)
 have:=TJ (n:=n) (rows:=rows) f t a w hm hi o u hz hs (az t.al i) 0 ((List.replicate rows.length none).set (b - n) (iN (-aj))) rfl (by simp);simp only [Uo,Uq] at this;refine ak ?_;rw [Ok];simp only [ai,↓reduceIte,Int.reduceBEq,Int.reduceEq,GD,cR,d,s,x,h,j,and_self,df,jJ hb,r,p,rT,bH,m,z,cX,g,e];exact this
end
def aV(n:Nat)(rows:List R)(val:List Vl)(aj:Int):List Nm->Nat->Option Nat
 | [],_=>none
 | x::xs,v=>if nv x≠0/\e9 n rows val v (aj * (nv x).num.sign)=true then some v else aV n rows val aj xs (v+1)
def po(n:Nat)(rows:List R)(b:Nat)(aj:Int)(i v:Nat)(t:TL):Vl:=fB (nX (if aj > 0 then iD n rows b else bP n rows b) (aI t.val b)) (ov (iN 1) (aq (az t.al i) v))
def gJ(n:Nat)(rows:List R)(eg:Bool)(b:Nat)(aj:Int)(i v:Nat)(t:TL):TL:=
 fg i v b (cC (az t.al i) v b) eg (dP v (po n rows b aj i v t) t)
theorem pn(q:Rat):q.num.sign=1\/q.num.sign= -1\/q.num.sign=0:=by
 rcases Wc q.num 0 with h | h | h
 .exact .inr (.inl (Vx h))
 .exact .inr (.inr (by rw [h];rfl))
 .exact .inl (Vj h)
theorem cL.mv{n m:Nat}{t:TL}(h:cL n m t)(v:Nat)(w:Vl):cL n m (dP v w t) where
 b:=h.b
 c:=h.c
 r:=h.r
 v:=by show(gV _ _ _ _ _).length=_;rw [Iu,Vc];exact h.v
 lt:=h.lt
 nd:=h.nd
section
variable {n:Nat} {rows:List R} (f:Fl) (t:TL)
set_option maxRecDepth 20000 in
theorem Tp{mv mc:Nat}(sz:Sz n rows)(l:cL n rows.length t){i b:Nat}(hi:i < rows.length)(hb:t.ah[i]? =some b)(hbn:n<=b){aj:Int}(Z:aj=1\/aj= -1)(hge:f.eg=true)
  (K:∀u,u < n+rows.length->VB mv (aI t.val u)) (X:∀x∈t.al,∀y∈x,QN mc y) (hzb:∀v,nv (aq (az t.al i) v)≠0->v∉t.ah)
  (h1s: 20<=mv) (h2s: 3 * mv+2 * mc+10<=6200) (h3s: 4 * mc+20<=6200) (p:Int)
  (hno:aV n rows t.val aj (az t.al i) 0=none->∀v,v < n->nv (aq (az t.al i) v)=0) {res:List T}
  (d:(match aV n rows t.val aj (az t.al i) 0 with
   | none=>some (T.aa 4 false (aR (jr n rows.length aj b (az t.al i)))::tb true::gh n rows f t)
   | some v=>Or pH [r0,I p] (S2 n rows f (gJ n rows f.eg b aj i v t)))=some res):
  ∀(xs:List Nm) (k:Nat),(az t.al i).drop k=xs->aV n rows t.val aj xs k=aV n rows t.val aj (az t.al i) 0->
  Or ou [r0,I p,I (b:Int),I aj,I (i:Int),I (-1),AV.row (Id.c 3) i,I ((az t.al i).length:Int),I (k:Int)] (S1 n rows f t)=some res:=by
 have hn:=sz.n;have hm:=sz.m;have hcl:=l.c;have hvl:=l.v;have hrow:=l.row hi;have q:=l.lt b (Uj hb);have O:=jL (al:=t.al) (i:=i) (by omega);have hci:az t.al i∈t.al:=Uj (jc (by omega));intro xs;induction xs with
 | nil=>
  intro k h Y;have h1:¬(k:Int) < ((az t.al i).length:Int):=by have:=bu h;omega
  have N:aV n rows t.val aj (az t.al i) 0=none:=by rw [<-Y];rfl
  have k1:=KV (n:=n) (rows:=rows) f t l hn hm hi hb hbn Z (X _ hci) (hno N) (by omega);rw [N] at d;simp only at d;rw [eI] at k1 d;rw [<-d];refine ak ?_;rw [uB];simp only [ai,↓reduceIte,Int.reduceBEq,Int.reduceEq,GD,eW,h1,k1,eV,eG,Ut,cF,cH]
  try rfl
 | cons x xs ih=>
  intro k h Y;obtain⟨S,g2,g3⟩:=bq h;have h1:(k:Int) < ((az t.al i).length:Int):=by omega
  have P: 0<=(k:Int):=by omega
  have ks:=lH x;have qx:=X _ hci x (Uj S);by_cases C:nv x=0
  .have z:=(fY (nv x)).2 C;have D:aV n rows t.val aj (x::xs) k=aV n rows t.val aj xs (k+1):=by rw [aV,if_neg (λs=>s.1 C)]
   have M:(!((nv x).num.sign==0))=false:=by rw [z];rfl
   have:=ih (k+1) g3 (by rw [<-D];exact Y);refine ak ?_;rw [uB];simp only [bT,ai,↓reduceIte,Int.reduceBEq,Int.reduceEq,GD,h1,P,and_self,O,bH,cu S,ks,z,next k (by omega)];exact this
  .have z:¬(nv x).num.sign=0:=λs=>C ((fY _).1 s);have M:(!((nv x).num.sign==0))=true:=by simpa using z
   have hws:i64.wrap (aj * (nv x).num.sign)=aj * (nv x).num.sign:=by refine Go.Aev.wr ?_;rcases Z with rfl | rfl <;> rcases pn (nv x) with e | e | e <;> rw [e] <;> omega
   have kc:=z7 sz f.er f.eb f.ev f.eg t.ah t.val t.aB hvl K (by omega) (v:=k) (by omega) (aj * (nv x).num.sign);by_cases w:e9 n rows t.val k (aj * (nv x).num.sign)=true
   .have D:aV n rows t.val aj (x::xs) k=some k:=by rw [aV,if_pos ⟨C,w⟩]
    have N:aV n rows t.val aj (az t.al i) 0=some k:=by rw [<-Y,D]
    have E:aq (az t.al i) k=x:=by unfold aq;rw [Ul,S];rfl
    have hkb:=hzb k (by rw [E];exact C);have hk1:¬(k:Int) < 0:=by omega
    have V:=td sz f.er f.eb f.ev f.eg t.ah t.val t.aB q;have U:=vU sz f.er f.eb f.ev f.eg t.ah t.val t.aB q;have hbv:=np (n8 (val:=t.val) (i:=b) (by omega));have hb1: 0<=(b:Int)/\(b:Int) < (t.val.length:Int):=by omega
    have hi2: 0<=(i:Int)/\(i:Int) < (t.al.length:Int):=by omega
    have hgi:=lf (al:=t.al) (i:=i) (by omega);have k32:=fK 1 (by omega);have q1:QN 2 (iN 1):=eu (by decide);obtain⟨k83,Q⟩:=mO q1 qx (by omega) C;have hcx:∀y∈t.al,QB mc (nv (aq y k)):=λy hy=>X y hy _ (Uj (gA (by rw [l.r y hy];omega)));rw [N] at d;simp only at d;rcases Z with hw | hw
    .subst hw;have qt:=uU sz q;have F:=vR qt (K b q) (by omega);have qs:=sW qt (K b q);have G:=pq (b:=ov (iN 1) x) qs Q (by omega);have qw:=nF (b:=ov (iN 1) x) qs Q;have B:=te (n:=n) (rows:=rows) f t l (v:=k) (by omega) hm hkb qw hcx (a:=mv) (by omega) K;obtain⟨o,g⟩:∃o,o=dP k (fB (nX (iD n rows b) (aI t.val b)) (ov (iN 1) x)) t:=⟨_,rfl⟩;have H:o.al=t.al:=by rw [g];rfl
     have J:o.ah[i]? =some b:=by rw [g];exact hb
     rw [<-g] at B;have j:=tg (n:=n) (rows:=rows) f o (by rw [g];exact l.mv _ _) hn hm hi (v:=k) (by omega) J (by rw [H];exact X) (by rw [H,E];exact C) (λs=>by rw [hge] at s;cases s) (by omega);rw [H] at j;have A:gJ n rows f.eg b 1 i k t=fg i k b (cC (az t.al i) k b) f.eg o:=by unfold gJ po;rw [E,g];rfl
     generalize cC (az t.al i) k b=L at j A;generalize hT2:fg i k b L f.eg o=t2 at j A;rw [eI] at B j;rw [cE] at V U F G;simp only [Uo,Uq] at V U;have W:(1:Int) > 0:=by omega
     rw [A] at d;refine ak ?_;rw [uB];simp only [ai,↓reduceIte,Int.reduceBEq,Int.reduceEq,GD,eW,cf,h1,P,hk1,hb1,hi2,and_self,O,hgi,bH,cN,cX,cu S,hbv,ks,z,M,hws,kc,w,V,U,F,k32,k83,G,B,j,W,eV,eG,Ut];exact d
    .subst hw;have qt:=qK sz q;have F:=vR qt (K b q) (by omega);have qs:=sW qt (K b q);have G:=pq (b:=ov (iN 1) x) qs Q (by omega);have qw:=nF (b:=ov (iN 1) x) qs Q;have B:=te (n:=n) (rows:=rows) f t l (v:=k) (by omega) hm hkb qw hcx (a:=mv) (by omega) K;obtain⟨o,g⟩:∃o,o=dP k (fB (nX (bP n rows b) (aI t.val b)) (ov (iN 1) x)) t:=⟨_,rfl⟩;have H:o.al=t.al:=by rw [g];rfl
     have J:o.ah[i]? =some b:=by rw [g];exact hb
     rw [<-g] at B;have j:=tg (n:=n) (rows:=rows) f o (by rw [g];exact l.mv _ _) hn hm hi (v:=k) (by omega) J (by rw [H];exact X) (by rw [H,E];exact C) (λs=>by rw [hge] at s;cases s) (by omega);rw [H] at j;have A:gJ n rows f.eg b (-1) i k t=fg i k b (cC (az t.al i) k b) f.eg o:=by unfold gJ po;rw [E,g];rfl
     generalize cC (az t.al i) k b=L at j A;generalize hT2:fg i k b L f.eg o=t2 at j A;rw [eI] at B j;rw [cE] at V U F G;simp only [Uo,Uq] at V U;have W:¬(-1:Int) > 0:=by omega
     rw [A] at d;refine ak ?_;rw [uB];simp only [ai,↓reduceIte,Int.reduceBEq,Int.reduceEq,GD,eW,cf,h1,P,hk1,hb1,hi2,and_self,O,hgi,bH,cN,cX,cu S,hbv,ks,z,M,hws,kc,w,V,U,F,k32,k83,G,B,j,W,eV,eG,Ut];exact d
   .have D:aV n rows t.val aj (x::xs) k=aV n rows t.val aj xs (k+1):=by rw [aV,if_neg (λs=>w s.2)]
    have hcan':e9 n rows t.val k (aj * (nv x).num.sign)=false:=by simpa using w
    have:=ih (k+1) g3 (by rw [<-D];exact Y);refine ak ?_;rw [uB];simp only [ai,↓reduceIte,Int.reduceBEq,Int.reduceEq,GD,h1,P,and_self,O,bH,cu S,ks,z,M,hws,kc,hcan',next k (by omega)];exact this
end
section
variable {n:Nat} {rows:List R} (f:Fl) (t:TL)
set_option maxRecDepth 20000 in
theorem Tq{mv mc:Nat}(sz:Sz n rows)(l:cL n rows.length t){i b:Nat}(hi:i < rows.length)(hb:t.ah[i]? =some b)(hbn:n<=b){aj:Int}(Z:aj=1\/aj= -1)(hge:f.eg=true)
  (K:∀u,u < n+rows.length->VB mv (aI t.val u)) (X:∀x∈t.al,∀y∈x,QN mc y) (hzb:∀v,nv (aq (az t.al i) v)≠0->v∉t.ah)
  (h1s: 20<=mv) (h2s: 3 * mv+2 * mc+10<=6200) (h3s: 4 * mc+20<=6200) (p:Int)
  (hno:aV n rows t.val aj (az t.al i) 0=none->∀v,v < n->nv (aq (az t.al i) v)=0) {res:List T}
  (d:(match aV n rows t.val aj (az t.al i) 0 with
   | none=>some (T.aa 4 false (aR (jr n rows.length aj b (az t.al i)))::tb true::gh n rows f t)
   | some v=>Or pH [r0,I p] (S2 n rows f (gJ n rows f.eg b aj i v t)))=some res):
  ∀(xs:List Nm) (k:Nat),(az t.al i).drop k=xs->aV n rows t.val aj xs k=aV n rows t.val aj (az t.al i) 0->
  Or ou [r0,I p,I (b:Int),I aj,I (i:Int),I (-1),AV.row (Id.c 6) i,I ((az t.al i).length:Int),I (k:Int)] (S2 n rows f t)=some res:=by
 have hn:=sz.n;have hm:=sz.m;have hcl:=l.c;have hvl:=l.v;have hrow:=l.row hi;have q:=l.lt b (Uj hb);have O:=jL (al:=t.al) (i:=i) (by omega);have hci:az t.al i∈t.al:=Uj (jc (by omega));intro xs;induction xs with
 | nil=>
  intro k h Y;have h1:¬(k:Int) < ((az t.al i).length:Int):=by have:=bu h;omega
  have N:aV n rows t.val aj (az t.al i) 0=none:=by rw [<-Y];rfl
  have k1:=KV (n:=n) (rows:=rows) f t l hn hm hi hb hbn Z (X _ hci) (hno N) (by omega);rw [N] at d;simp only at d;rw [eI] at k1 d;rw [<-d];refine ak ?_;rw [uC];simp only [ai,↓reduceIte,Int.reduceBEq,Int.reduceEq,GD,eW,h1,k1,eV,eG,Ut,cF,cH]
  try rfl
 | cons x xs ih=>
  intro k h Y;obtain⟨S,g2,g3⟩:=bq h;have h1:(k:Int) < ((az t.al i).length:Int):=by omega
  have P: 0<=(k:Int):=by omega
  have ks:=lH x;have qx:=X _ hci x (Uj S);by_cases C:nv x=0
  .have z:=(fY (nv x)).2 C;have D:aV n rows t.val aj (x::xs) k=aV n rows t.val aj xs (k+1):=by rw [aV,if_neg (λs=>s.1 C)]
   have M:(!((nv x).num.sign==0))=false:=by rw [z];rfl
   have:=ih (k+1) g3 (by rw [<-D];exact Y);refine ak ?_;rw [uC];simp only [bT,ai,↓reduceIte,Int.reduceBEq,Int.reduceEq,GD,h1,P,and_self,O,bH,cu S,ks,z,next k (by omega)];exact this
  .have z:¬(nv x).num.sign=0:=λs=>C ((fY _).1 s);have M:(!((nv x).num.sign==0))=true:=by simpa using z
   have hws:i64.wrap (aj * (nv x).num.sign)=aj * (nv x).num.sign:=by refine Go.Aev.wr ?_;rcases Z with rfl | rfl <;> rcases pn (nv x) with e | e | e <;> rw [e] <;> omega
   have kc:=z7 sz f.er f.eb f.ev f.eg t.ah t.val t.aB hvl K (by omega) (v:=k) (by omega) (aj * (nv x).num.sign);by_cases w:e9 n rows t.val k (aj * (nv x).num.sign)=true
   .have D:aV n rows t.val aj (x::xs) k=some k:=by rw [aV,if_pos ⟨C,w⟩]
    have N:aV n rows t.val aj (az t.al i) 0=some k:=by rw [<-Y,D]
    have E:aq (az t.al i) k=x:=by unfold aq;rw [Ul,S];rfl
    have hkb:=hzb k (by rw [E];exact C);have hk1:¬(k:Int) < 0:=by omega
    have V:=td sz f.er f.eb f.ev f.eg t.ah t.val t.aB q;have U:=vU sz f.er f.eb f.ev f.eg t.ah t.val t.aB q;have hbv:=np (n8 (val:=t.val) (i:=b) (by omega));have hb1: 0<=(b:Int)/\(b:Int) < (t.val.length:Int):=by omega
    have hi2: 0<=(i:Int)/\(i:Int) < (t.al.length:Int):=by omega
    have hgi:=lf (al:=t.al) (i:=i) (by omega);have k32:=fK 1 (by omega);have q1:QN 2 (iN 1):=eu (by decide);obtain⟨k83,Q⟩:=mO q1 qx (by omega) C;have hcx:∀y∈t.al,QB mc (nv (aq y k)):=λy hy=>X y hy _ (Uj (gA (by rw [l.r y hy];omega)));rw [N] at d;simp only at d;rcases Z with hw | hw
    .subst hw;have qt:=uU sz q;have F:=vR qt (K b q) (by omega);have qs:=sW qt (K b q);have G:=pq (b:=ov (iN 1) x) qs Q (by omega);have qw:=nF (b:=ov (iN 1) x) qs Q;have B:=te (n:=n) (rows:=rows) f t l (v:=k) (by omega) hm hkb qw hcx (a:=mv) (by omega) K;obtain⟨o,g⟩:∃o,o=dP k (fB (nX (iD n rows b) (aI t.val b)) (ov (iN 1) x)) t:=⟨_,rfl⟩;have H:o.al=t.al:=by rw [g];rfl
     have J:o.ah[i]? =some b:=by rw [g];exact hb
     rw [<-g] at B;have j:=tg (n:=n) (rows:=rows) f o (by rw [g];exact l.mv _ _) hn hm hi (v:=k) (by omega) J (by rw [H];exact X) (by rw [H,E];exact C) (λs=>by rw [hge] at s;cases s) (by omega);rw [H] at j;have A:gJ n rows f.eg b 1 i k t=fg i k b (cC (az t.al i) k b) f.eg o:=by unfold gJ po;rw [E,g];rfl
     generalize cC (az t.al i) k b=L at j A;generalize hT2:fg i k b L f.eg o=t2 at j A;rw [eI] at B j;rw [cE] at V U F G;simp only [Uo,Uq] at V U;have W:(1:Int) > 0:=by omega
     rw [A] at d;refine ak ?_;rw [uC];simp only [ai,↓reduceIte,Int.reduceBEq,Int.reduceEq,GD,eW,cf,h1,P,hk1,hb1,hi2,and_self,O,hgi,bH,cN,cX,cu S,hbv,ks,z,M,hws,kc,w,V,U,F,k32,k83,G,B,j,W,eV,eG,Ut];exact d
    .subst hw;have qt:=qK sz q;have F:=vR qt (K b q) (by omega);have qs:=sW qt (K b q);have G:=pq (b:=ov (iN 1) x) qs Q (by omega);have qw:=nF (b:=ov (iN 1) x) qs Q;have B:=te (n:=n) (rows:=rows) f t l (v:=k) (by omega) hm hkb qw hcx (a:=mv) (by omega) K;obtain⟨o,g⟩:∃o,o=dP k (fB (nX (bP n rows b) (aI t.val b)) (ov (iN 1) x)) t:=⟨_,rfl⟩;have H:o.al=t.al:=by rw [g];rfl
     have J:o.ah[i]? =some b:=by rw [g];exact hb
     rw [<-g] at B;have j:=tg (n:=n) (rows:=rows) f o (by rw [g];exact l.mv _ _) hn hm hi (v:=k) (by omega) J (by rw [H];exact X) (by rw [H,E];exact C) (λs=>by rw [hge] at s;cases s) (by omega);rw [H] at j;have A:gJ n rows f.eg b (-1) i k t=fg i k b (cC (az t.al i) k b) f.eg o:=by unfold gJ po;rw [E,g];rfl
     generalize cC (az t.al i) k b=L at j A;generalize hT2:fg i k b L f.eg o=t2 at j A;rw [eI] at B j;rw [cE] at V U F G;simp only [Uo,Uq] at V U;have W:¬(-1:Int) > 0:=by omega
     rw [A] at d;refine ak ?_;rw [uC];simp only [ai,↓reduceIte,Int.reduceBEq,Int.reduceEq,GD,eW,cf,h1,P,hk1,hb1,hi2,and_self,O,hgi,bH,cN,cX,cu S,hbv,ks,z,M,hws,kc,w,V,U,F,k32,k83,G,B,j,W,eV,eG,Ut];exact d
   .have D:aV n rows t.val aj (x::xs) k=aV n rows t.val aj xs (k+1):=by rw [aV,if_neg (λs=>w s.2)]
    have hcan':e9 n rows t.val k (aj * (nv x).num.sign)=false:=by simpa using w
    have:=ih (k+1) g3 (by rw [<-D];exact Y);refine ak ?_;rw [uC];simp only [ai,↓reduceIte,Int.reduceBEq,Int.reduceEq,GD,h1,P,and_self,O,bH,cu S,ks,z,M,hws,kc,hcan',next k (by omega)];exact this
end
end Go.Aev.Wd.Lg
