import Derived.Test.YtdjbbnlgpddbmaaAwayAllQ10
import Derived.Test.YtdjbbnlgpddbmaaAwayAllQ11
set_option linter.all false
namespace Go.Aev.Wd.Lg
open Go Go.Aev Go.Aev.Gen Go.Aev.Wd Go.IntKind
abbrev Vl:=Nm×Nm
abbrev EV(v:Vl):AV:=AV.agg [B (decide ((nv v.1).num < 0)),AV.t (T.str (bA (dz (nv v.1).num))),B (nc v.1),AV.t (T.str (nd v.1)),B (decide ((nv v.2).num < 0)),AV.t (T.str (bA (dz (nv v.2).num))),B (nc v.2),AV.t (T.str (nd v.2))]
def VC(v:Vl):List T:= [tb (decide ((nv v.1).num < 0)),T.str (bA (dz (nv v.1).num)),tb (nc v.1),T.str (nd v.1),tb (decide ((nv v.2).num < 0)),T.str (bA (dz (nv v.2).num)),tb (nc v.2),T.str (nd v.2)]
theorem jb(v:Vl):VC v= [tb (decide ((nv v.1).num < 0)),T.str (bA (dz (nv v.1).num)),tb (nc v.1),T.str (nd v.1),tb (decide ((nv v.2).num < 0)),T.str (bA (dz (nv v.2).num)),tb (nc v.2),T.str (nd v.2)]:=rfl
def fV(l:List Vl):List (List T):=l.map VC
theorem e8(l:List Vl):(fV l).length=l.length:=by simp [fV]
theorem nE{l:List Vl}{i:Nat}{x:Vl}(h:l[i]? =some x):(fV l)[((i:Nat):Int).toNat]? =some [tb (decide ((nv x.1).num < 0)),T.str (bA (dz (nv x.1).num)),tb (nc x.1),T.str (nd x.1),tb (decide ((nv x.2).num < 0)),T.str (bA (dz (nv x.2).num)),tb (nc x.2),T.str (nd x.2)]:=by simp [fV,h,VC]
theorem EW{l:List Vl}{i:Nat}(hi:i < l.length)(x:Vl):bt ((i:Nat):Int).toNat 0 [tb (decide ((nv x.1).num < 0)),T.str (bA (dz (nv x.1).num)),tb (nc x.1),T.str (nd x.1),tb (decide ((nv x.2).num < 0)),T.str (bA (dz (nv x.2).num)),tb (nc x.2),T.str (nd x.2)] (fV l)=some (fV (l.set i x)):=by
 have h1:(fV l)[((i:Nat):Int).toNat]? =some (VC l[i]):=by simp [fV,hi]
 simp only [bt,h1];simp [bE,fV,VC,Uk]
def dO(l:List Nat):List (List T):=l.map λ(v:Nat)=> [ti (v:Int)]
theorem ir(l:List Nat):(dO l).length=l.length:=by simp [dO]
theorem kM{l:List Nat}{i:Nat}{x:Nat}(h:l[i]? =some x):(dO l)[((i:Nat):Int).toNat]? =some [ti (x:Int)]:=by simp [dO,h]
theorem L9{l:List Nat}{i:Nat}(hi:i < l.length)(x:Nat):bt ((i:Nat):Int).toNat 0 [ti (x:Int)] (dO l)=some (dO (l.set i x)):=by
 have h1:(dO l)[((i:Nat):Int).toNat]? =some [ti (l[i]:Int)]:=by simp [dO,hi]
 simp only [bt,h1];simp [bE,dO,Uk]
theorem jQ{a:Type}(x y z u v t w:a)(l:List a):(x::y::z::u::v::t::w::l).drop 7=l:=by cases l <;> rfl
theorem fu{a:Type}(x y z u v t w s:a)(l:List a):(x::y::z::u::v::t::w::s::l).drop 8=l:=by cases l <;> rfl
def VB(m:Nat)(v:Vl):Prop:=QB m (nv v.1)/\QB m (nv v.2)
theorem VB.mono{m k:Nat}{v:Vl}(h:VB m v)(hk:m<=k):VB k v:=⟨h.1.mono hk,h.2.mono hk⟩
def jH(a b:Vl):Vl:=(some (nv a.1+nv b.1),some (nv a.2+nv b.2))
def oo(a b:Vl):Vl:=(some (nv a.1 - nv b.1),some (nv a.2 - nv b.2))
def fE(a:Vl)(k:Nm):Vl:=(some (nv a.1 * nv k),some (nv a.2 * nv k))
def eE(a b:Vl):Int:=if cq (nv a.1) (nv b.1)=0 then cq (nv a.2) (nv b.2) else cq (nv a.1) (nv b.1)
theorem IZ{m k:Nat}{a b:Vl}(c:VB m a)(hb:VB k b)(h:m+k+1<=6300):Or (.call 73) [EV a,EV b] []=some (VC (jH a b)):=by have d:=xG c.1 hb.1 h;have k2:=xG c.2 hb.2 h;rw [qL] at d k2;rw [jb];refine an ?_;rw [Mg];simp only [aj,↓reduceIte,Int.reduceBEq,Int.reduceEq,GD,d,k2];rfl
theorem xH{m k:Nat}{a b:Vl}(c:VB m a)(hb:VB k b)(h:m+k+1<=6300):Or (.call 41) [EV a,EV b] []=some (VC (oo a b)):=by have d:=BO c.1 hb.1 h;have k2:=BO c.2 hb.2 h;rw [qL] at d k2;rw [jb];refine an ?_;rw [Mr];simp only [aj,↓reduceIte,Int.reduceBEq,Int.reduceEq,GD,d,k2];rfl
theorem tC{m k:Nat}{a:Vl}{b:Nm}(c:VB m a)(hb:QB k (nv b))(h:m+k<=6300):Or (.call 42) [EV a,EN b] []=some (VC (fE a b)):=by have d:=BP c.1 hb h;have k2:=BP c.2 hb h;rw [qL] at d k2;rw [jb];refine an ?_;rw [Ms];simp only [aj,↓reduceIte,Int.reduceBEq,Int.reduceEq,GD,d,k2];rfl
theorem xD{m k:Nat}{a b:Vl}(d:VB m a)(hb:VB k b)(h:m+k<=6300):Or (.call 71) [EV a,EV b] []=some [ti (eE a b)]:=by
 have e:=xE d.1 hb.1 h;have k2:=xE d.2 hb.2 h;refine an ?_;rw [Mf];unfold eE;by_cases c:cq (nv a.1) (nv b.1)=0
 .simp only [aj,↓reduceIte,Int.reduceBEq,Int.reduceEq,GD,e,k2,c]
 .simp only [aj,↓reduceIte,Int.reduceBEq,Int.reduceEq,GD,e,k2,c]
abbrev TP(n:Nat)(er:Bool)(rows:List R)(eb:Bool)(ah:List Nat)(ev:Bool)(val:List Vl)(eg:Bool)(aT:List Nm):T:=
 T.ptr [ti (n:Int),T.ae 3 er (eF rows),T.ae 1 eb (dO ah),T.any,T.any,T.ae 8 ev (fV val),T.ae 4 eg (bg aT)]
structure Sz (n:Nat) (rows:List R):Prop where
 n:n<=12
 m:rows.length<=40
 tv:∀r∈rows, -1000000<=r.tv/\r.tv<=1000000
def rowAt(rows:List R)(i:Nat):R:=rows.getD i default
theorem pj{rows:List R}{i:Nat}(h:i < rows.length):rows[i]? =some (rowAt rows i):=by unfold rowAt;rw [RO,RR h];rfl
theorem gJ{rows:List R}{i:Nat}(h:i < rows.length):rowAt rows i∈rows:=RN (pj h)
def bC(n:Nat)(rows:List R)(v:Nat):Vl:=if v < n then(none,none) else(some ((rowAt rows (v - n)).tv:Rat),if(rowAt rows (v - n)).kd=2 then some ((-1:Int):Rat) else none)
def e9(n:Nat)(rows:List R)(v:Nat):Bool:= !decide (v < n) && decide ((rowAt rows (v - n)).kd=3)
def gY(n:Nat)(rows:List R)(v:Nat):Vl:=if e9 n rows v=true then(some ((rowAt rows (v - n)).tv:Rat),none) else(none,none)
theorem mb(m:Nat):QB m 0:=⟨by simp,by simpa using VT⟩
theorem kQ{m:Nat}{c:Int}(h:c.natAbs<=2 ^ m):QB m (c:Rat):=⟨h,VT⟩
theorem rq{n:Nat}{rows:List R}(sz:Sz n rows){v:Nat}(hv:v < n+rows.length):VB 20 (bC n rows v):=by
 unfold bC;by_cases h:v < n
 .rw [if_pos h];exact⟨mb _,mb _⟩
 .rw [if_neg h];have:=sz.tv _ (gJ (i:=v - n) (by omega));refine⟨kQ (by omega), ?_⟩;dsimp only;split
  .exact kQ (by decide)
  .exact mb _
theorem wD{n:Nat}{rows:List R}(sz:Sz n rows){v:Nat}(hv:v < n+rows.length):VB 20 (gY n rows v):=by
 unfold gY;by_cases h:e9 n rows v=true
 .rw [if_pos h];have hn:¬v < n:=λa=>by simp [e9,a] at h
  have:=sz.tv _ (gJ (rows:=rows) (i:=v - n) (by omega));exact⟨kQ (by omega),mb _⟩
 .rw [if_neg h];exact⟨mb _,mb _⟩
theorem tA{v n:Nat}(h:¬v < n)(hv:v<=1000):i64.wrap ((v:Int) - (n:Int))= ((v - n:Nat):Int):=by rw [Go.Aev.wr (by omega)];omega
section
variable {n:Nat} {rows:List R} (sz:Sz n rows) (er eb ev eg:Bool) (ah:List Nat) (val:List Vl) (aT:List Nm)
include sz
theorem tF{v:Nat}(hv:v < n+rows.length):Or (.call 39) [AV.t (TP n er rows eb ah ev val eg aT),I (v:Int)] []=some (VC (bC n rows v)++ [tb (!decide (v < n))]):=by
 have hn:=sz.n;have hm:=sz.m;refine an ?_;rw [Mp,jb];unfold bC;by_cases h:v < n
 .have h1:(v:Int) < (n:Int):=by omega
  simp only [aj,↓reduceIte,Int.reduceBEq,Int.reduceEq,GD,h,h1,decide_true];rfl
 .have h1:¬(v:Int) < (n:Int):=by omega
  have b:=tA h (by omega);have hi:v - n < rows.length:=by omega
  have hr: 0<=((v - n:Nat):Int)/\((v - n:Nat):Int) < (rows.length:Int):=by omega
  have c:=sz.tv _ (gJ hi);have a:=xF (rowAt rows (v - n)).tv (by omega);have k2:=xF (-1) (by omega);rw [qL] at a k2;by_cases hk:(rowAt rows (v - n)).kd=2
  .simp only [aj,↓reduceIte,Int.reduceBEq,Int.reduceEq,GD,h,h1,b,hr,and_self,cY,fT (pj hi),a,k2,hk,decide_false];rfl
  .simp only [aj,↓reduceIte,Int.reduceBEq,Int.reduceEq,GD,h,h1,b,hr,and_self,cY,fT (pj hi),a,k2,hk,decide_false];rfl
theorem xQ{v:Nat}(hv:v < n+rows.length):Or (.call 40) [AV.t (TP n er rows eb ah ev val eg aT),I (v:Int)] []=some (VC (gY n rows v)++ [tb (e9 n rows v)]):=by
 have hn:=sz.n;have hm:=sz.m;refine an ?_;rw [Mq,jb];unfold gY e9;by_cases h:v < n
 .have h1:(v:Int) < (n:Int):=by omega
  simp only [dG,aj,↓reduceIte,Int.reduceBEq,Int.reduceEq,GD,h,h1,decide_true];rfl
 .have h1:¬(v:Int) < (n:Int):=by omega
  have c:=tA h (by omega);have hi:v - n < rows.length:=by omega
  have hr: 0<=((v - n:Nat):Int)/\((v - n:Nat):Int) < (rows.length:Int):=by omega
  have d:=sz.tv _ (gJ hi);have a:=xF (rowAt rows (v - n)).tv (by omega);rw [qL] at a;by_cases hk:(rowAt rows (v - n)).kd=3
  .simp only [aj,↓reduceIte,Int.reduceBEq,Int.reduceEq,GD,h,h1,c,hr,and_self,cY,fT (pj hi),a,hk,decide_false,decide_true];rfl
  .have b:((rowAt rows (v - n)).kd==3)=false:=by simpa using hk
   simp only [aj,↓reduceIte,Int.reduceBEq,Int.reduceEq,GD,h,h1,c,hr,and_self,cY,fT (pj hi),a,hk,b,decide_false];rfl
def aH(val:List Vl)(v:Nat):Vl:=val.getD v (none,none)
omit sz in
theorem oA{val:List Vl}{i:Nat}(h:i < val.length):val[i]? =some (aH val i):=by unfold aH;rw [RO,RR h];rfl
def fp(n:Nat)(rows:List R)(val:List Vl)(v:Nat)(w:Int):Bool:=
 if w > 0 then decide (v < n) || decide (eE (aH val v) (bC n rows v) < 0) else !e9 n rows v || decide (eE (aH val v) (gY n rows v) > 0)
theorem Jf{m:Nat}(hl:val.length=n+rows.length)(hb:∀v,v < n+rows.length->VB m (aH val v))(hm:m<=6200){v:Nat}(hv:v < n+rows.length)(w:Int):
  Or (.call 37) [AV.t (TP n er rows eb ah ev val eg aT),I (v:Int),I w] []=some [tb (fp n rows val v w)]:=by
 have b:=tF sz er eb ev eg ah val aT hv;have k2:=xQ sz er eb ev eg ah val aT hv;have e:=xD (hb v hv) (rq sz hv) (by omega);have g:=xD (hb v hv) (wD sz hv) (by omega);have hr: 0<=(v:Int)/\(v:Int) < (val.length:Int):=by omega
 have d:=nE (oA (val:=val) (i:=v) (by omega));rw [jb] at b k2;simp only [RU,R0] at b k2;refine an ?_;rw [Mn];unfold fp;by_cases a:w > 0
 .by_cases h:v < n
  .simp only [dG,aj,↓reduceIte,Int.reduceBEq,Int.reduceEq,GD,fu,a,b,h,decide_true,Sl,Sw,if_true,V8]
   try rfl
  .simp only [aj,↓reduceIte,Int.reduceBEq,Int.reduceEq,GD,fu,a,b,h,decide_false,hr,and_self,e8,d,e,if_true,SP,Sw,Sl]
 .cases c:e9 n rows v
  .rw [c] at k2;simp only [dG,aj,↓reduceIte,Int.reduceBEq,Int.reduceEq,GD,fu,a,k2,Sl,Sw,V8]
   try rfl
  .rw [c] at k2;simp only [aj,↓reduceIte,Int.reduceBEq,Int.reduceEq,GD,fu,a,k2,hr,and_self,e8,d,g,SP,Sw,Sl]
def b8(n:Nat)(rows:List R)(val:List Vl):List Nat->Int×Int->Int×Int
 | [],p=>p
 | b::r,p=>if p.1>=0/\(b:Int) > p.1 then b8 n rows val r p else
  if e9 n rows b=true/\eE (aH val b) (gY n rows b) < 0 then b8 n rows val r (b,1) else
  if ¬b < n/\eE (aH val b) (bC n rows b) > 0 then b8 n rows val r (b, -1) else b8 n rows val r p
theorem QZ{m:Nat}(hl:val.length=n+rows.length)(hb:∀v,v < n+rows.length->VB m (aH val v))(hm:m<=6200)(B:∀b∈ah,b < n+rows.length)(G:ah.length<=1000):
  ∀(a:List Nat) (i:Nat) (p:Int×Int),ah.drop i=a->
  Or uJ [AV.t (TP n er rows eb ah ev val eg aT),I p.1,I p.2,AV.t (T.ae 1 eb (dO ah)),I (ah.length:Int),I (i:Int)] []=some [ti (b8 n rows val a p).1,ti (b8 n rows val a p).2]:=by
 intro a;induction a with
 | nil=>
  intro i p h;have h1:¬(i:Int) < (ah.length:Int):=by have:=bU h;omega
  refine an ?_;rw [nF];simp only [aj,↓reduceIte,Int.reduceBEq,Int.reduceEq,GD,h1,b8]
 | cons b a A=>
  intro i p h;obtain⟨q,H,y⟩:=bR h;have h1:(i:Int) < (ah.length:Int):=by omega
  have d: 0<=(i:Int):=by omega
  have o:=B b (RN q);have r:=tF sz er eb ev eg ah val aT o;have k2:=xQ sz er eb ev eg ah val aT o;have u:=xD (hb b o) (rq sz o) (by omega);have w:=xD (hb b o) (wD sz o) (by omega);have hr: 0<=(b:Int)/\(b:Int) < (val.length:Int):=by omega
  have s:=nE (oA (val:=val) (i:=b) (by omega));rw [jb] at r k2;simp only [RU,R0] at r k2;have x:=A (i+1) p y;have E:=A (i+1) ((b:Int),1) y;have F:=A (i+1) ((b:Int), -1) y;by_cases hs:p.1>=0/\(b:Int) > p.1
  .have C:=hs.1;have D:=hs.2;have c:b8 n rows val (b::a) p=b8 n rows val a p:=by rw [b8,if_pos hs]
   rw [c];refine an ?_;rw [nF];simp only [aj,↓reduceIte,Int.reduceBEq,Int.reduceEq,GD,h1,d,and_self,ir,kM q,C,D,decide_true,if_true,next i (by omega)];exact x
  .have l:(if p.1>=0 then decide ((b:Int) > p.1) else false)=false:=by
    by_cases z:p.1>=0
    .rw [if_pos z];exact decide_eq_false (λj=>hs ⟨z,j⟩)
    .rw [if_neg z]
   by_cases h:b < n
   .have e:e9 n rows b=false:=by simp [e9,h]
    rw [e] at k2;have c:b8 n rows val (b::a) p=b8 n rows val a p:=by rw [b8,if_neg hs,if_neg (by rw [e];simp),if_neg (λj=>j.1 h)]
    rw [c];refine an ?_;rw [nF];simp only [dG,aj,↓reduceIte,Int.reduceBEq,Int.reduceEq,GD,fu,h1,d,hr,and_self,ir,kM q,l,r,k2,h,decide_true,Sl,e8,s,SJ,next i (by omega)];exact x
   .cases e:e9 n rows b
    .rw [e] at k2;by_cases g:eE (aH val b) (bC n rows b) > 0
     .have c:b8 n rows val (b::a) p=b8 n rows val a ((b:Int), -1):=by
       rw [b8,if_neg hs,if_neg (by rw [e];simp),if_pos ⟨h,g⟩]
      rw [c];refine an ?_;rw [nF];simp only [dG,aj,↓reduceIte,Int.reduceBEq,Int.reduceEq,GD,fu,h1,d,hr,and_self,ir,kM q,l,r,k2,h,decide_false,decide_true,Sw,e8,s,SJ,u,g,next i (by omega)];exact F
     .have c:b8 n rows val (b::a) p=b8 n rows val a p:=by
       rw [b8,if_neg hs,if_neg (by rw [e];simp),if_neg (λj=>g j.2)]
      rw [c];refine an ?_;rw [nF];simp only [dG,aj,↓reduceIte,Int.reduceBEq,Int.reduceEq,GD,fu,h1,d,hr,and_self,ir,kM q,l,r,k2,h,decide_false,decide_true,Sw,e8,s,SJ,u,g,next i (by omega)];exact x
    .rw [e] at k2;by_cases k:eE (aH val b) (gY n rows b) < 0
     .have c:b8 n rows val (b::a) p=b8 n rows val a ((b:Int),1):=by
       rw [b8,if_neg hs,if_pos ⟨e,k⟩]
      rw [c];refine an ?_;rw [nF];by_cases g:eE (aH val b) (bC n rows b) > 0
      .simp only [aj,↓reduceIte,Int.reduceBEq,Int.reduceEq,GD,fu,h1,d,hr,and_self,ir,kM q,l,r,k2,h,decide_false,decide_true,Sw,e8,s,u,w,g,k,next i (by omega)];exact E
      .simp only [aj,↓reduceIte,Int.reduceBEq,Int.reduceEq,GD,fu,h1,d,hr,and_self,ir,kM q,l,r,k2,h,decide_false,decide_true,Sw,e8,s,u,w,g,k,next i (by omega)];exact E
     .by_cases g:eE (aH val b) (bC n rows b) > 0
      .have c:b8 n rows val (b::a) p=b8 n rows val a ((b:Int), -1):=by
        rw [b8,if_neg hs,if_neg (λj=>k j.2),if_pos ⟨h,g⟩]
       rw [c];refine an ?_;rw [nF];simp only [aj,↓reduceIte,Int.reduceBEq,Int.reduceEq,GD,fu,h1,d,hr,and_self,ir,kM q,l,r,k2,h,decide_false,decide_true,Sw,e8,s,u,w,g,k,next i (by omega)];exact F
      .have c:b8 n rows val (b::a) p=b8 n rows val a p:=by
        rw [b8,if_neg hs,if_neg (λj=>k j.2),if_neg (λj=>g j.2)]
       rw [c];refine an ?_;rw [nF];simp only [aj,↓reduceIte,Int.reduceBEq,Int.reduceEq,GD,fu,h1,d,hr,and_self,ir,kM q,l,r,k2,h,decide_false,decide_true,Sw,e8,s,u,w,g,k,next i (by omega)];exact x
def gS(n:Nat)(rows:List R)(val:List Vl)(ah:List Nat):Int×Int:=b8 n rows val ah (-1,0)
theorem Je{m:Nat}(hl:val.length=n+rows.length)(hb:∀v,v < n+rows.length->VB m (aH val v))(hm:m<=6200)(c:∀b∈ah,b < n+rows.length)(a:ah.length<=1000):
  Or (.call 35) [AV.t (TP n er rows eb ah ev val eg aT)] []=some [ti (gS n rows val ah).1,ti (gS n rows val ah).2]:=by
 have:=QZ sz er eb ev eg ah val aT hl hb hm c a ah 0 (-1,0) rfl;refine an ?_;rw [Mm];simp only [ir];exact this
end
open Go Go.Aev Go.Aev.Gen Go.Aev.Wd Go.IntKind
def bM:Nat->List (List Nm)->List Row
 | _,[]=> []
 | s,x::r=>⟨s,[T.aS],some (false,bg x)⟩::bM (s+1) r
theorem fD:∀(s:Nat) (l:List (List Nm)),(bM s l).length=l.length
 | _,[]=>rfl
 | s,x::r=>by simp [bM,fD (s+1) r]
def ay(ak:List (List Nm))(i:Nat):List Nm:=ak.getD i []
theorem mn{ak:List (List Nm)}{i:Nat}(h:i < ak.length):ak[i]? =some (ay ak i):=by unfold ay;rw [RO,RR h];rfl
theorem Gp:∀{l:List (List Nm)} {s i:Nat} {x:List Nm},l[i]? =some x->(bM s l)[i]? =some ⟨s+i,[T.aS],some (false,bg x)⟩
 | [],_,_,_,h=>by simp at h
 | y::r,s,0,x,h=>by simp at h;subst h;rfl
 | y::r,s,i+1,x,h=>by have:=Gp (l:=r) (s:=s+1) (i:=i) (x:=x) (by simpa using h);rw [show s+ (i+1)=s+1+i by omega];simpa [bM] using this
theorem mN{ak:List (List Nm)}{i:Nat}(h:i < ak.length):(bM 0 ak)[((i:Nat):Int).toNat]? =some ⟨i,[T.aS],some (false,bg (ay ak i))⟩:=by have:=Gp (s:=0) (mn h);rw [Sn] at this;simpa using this
theorem Fq:∀{l:List (List Nm)} {s i:Nat} {x:List Nm},l[i]? =some x->bq (s+i) (bM s l)=some (false,bg x)
 | [],_,_,_,h=>by simp at h
 | y::r,s,0,x,h=>by simp at h;subst h;simp [bM,bq]
 | y::r,s,i+1,x,h=>by
  have:=Fq (l:=r) (s:=s+1) (i:=i) (x:=x) (by simpa using h);rw [show s+ (i+1)=s+1+i by omega];have a:¬s=s+1+i:=by omega
  simp only [bM,bq,if_neg a];exact this
theorem lR{ak:List (List Nm)}{i:Nat}(h:i < ak.length):bq i (bM 0 ak)=some (false,bg (ay ak i)):=by have:=Fq (s:=0) (mn h);rwa [Sn] at this
theorem Iw:∀{l:List (List Nm)} {s i:Nat} (p:Bool×List (List T)) (y:List Nm),p= (false,bg y)->i < l.length->cN (s+i) (some p) (cN (s+i) none (bM s l))=bM s (l.set i y)
 | [],_,_,_,_,_,h=>by simp at h
 | z::r,s,0,p,y,e,_=>by subst e;simp [bM,cN]
 | z::r,s,i+1,p,y,e,h=>by
  have:=Iw (l:=r) (s:=s+1) (i:=i) p y e (by simpa using h);rw [show s+ (i+1)=s+1+i by omega];have a:¬s=s+1+i:=by omega
  simp only [bM,cN,if_neg a,this,Uj]
theorem P0{ak:List (List Nm)}{i:Nat}(y:List Nm)(h:i < ak.length):cN i (some (false,bg y)) (cN i none (bM 0 ak))=bM 0 (ak.set i y):=by have:=Iw (s:=0) (i:=i) (false,bg y) y rfl h;rwa [Sn] at this
theorem Hc:∀{l:List (List Nm)} {s i:Nat},i < l.length->kR (s+i) (cN (s+i) none (bM s l))=some ()
 | [],_,_,h=>by simp at h
 | z::r,s,0,_=>by simp [bM,cN,kR]
 | z::r,s,i+1,h=>by
  have:=Hc (l:=r) (s:=s+1) (i:=i) (by simpa using h);rw [show s+ (i+1)=s+1+i by omega];have a:¬s=s+1+i:=by omega
  simp only [bM,cN,kR,if_neg a,this]
theorem On{ak:List (List Nm)}{i:Nat}(h:i < ak.length):kR i (cN i none (bM 0 ak))=some ():=by have:=Hc (s:=0) h;rwa [Sn] at this
theorem jI:∀(l:List (List Nm)) (s:Nat),dh (bM s l)=true
 | [],_=>rfl
 | x::r,s=>by
  have:=jI r (s+1);unfold dh at *
  simp [bM,this]
theorem Po(s:Nat)(cs:List T)(p:Bool×List (List T)):od ⟨s,cs,some p⟩=T.ae 0 p.1 p.2:=rfl
theorem DL:∀(l:List (List Nm)) (s:Nat),p7 s ((bM s l).map λe=> [.ptr e.cs,od e])=some (bM s l)
 | [],_=>rfl
 | x::r,s=>by have:=DL r (s+1);simp only [bM,Se,Po,p7];rw [this];rfl
theorem jO(b:Bool)(l:List (List Nm)):jN (dH b (bM 0 l))=some (b,bM 0 l):=by simp only [dH,jN];rw [DL];rfl
theorem EX:∀(l:List (List Nm)) (s i k:Nat) (y:List Nm),((bM s l).set i ⟨k,[T.aS],some (false,bg y)⟩).map (λe=> [.ptr e.cs,od e])= (bM s (l.set i y)).map (λe=> [T.ptr e.cs,od e])
 | [],_,_,_,_=>rfl
 | z::r,s,0,k,y=>by simp [bM,od]
 | z::r,s,i+1,k,y=>by have:=EX r (s+1) i k y;simp only [bM,Uj,Se,this]
theorem Mb(b:Bool)(l:List (List Nm))(i k:Nat)(y:List Nm):dH b ((bM 0 l).set i ⟨k,[T.aS],some (false,bg y)⟩)=dH b (bM 0 (l.set i y)):=by simp only [dH,EX]
theorem JG(l:List Row)(i k:Nat)(cs:List T)(p:Bool×List (List T))(h:dh l=true):dh (l.set i ⟨k,cs,some p⟩)=true:=by
 unfold dh at *
 rw [R7] at *
 intro x a;rcases Su a with h1 | h1
 .exact h x h1
 .subst h1;rfl
abbrev Ln:=List (Nat×Nat)
def cd(l:Ln):List (List T×T):=l.map λp=>([ti (p.1:Int)],ti (p.2:Int))
def cM(v:Nat):Ln->Option Nat
 | []=>none
 | p::r=>if v=p.1 then some p.2 else cM v r
def iy(v i:Nat):Ln->Ln
 | []=> [(v,i)]
 | p::r=>if v=p.1 then(v,i)::r else p::iy v i r
def jP(v:Nat):Ln->Ln
 | []=> []
 | p::r=>if v=p.1 then r else p::jP v r
theorem zN(a b:Nat):dt [ti (a:Int)] [ti (b:Int)]=decide (a=b):=by
 by_cases h:a=b
 .subst h;simp [dt,mD]
 .have:¬(a:Int)= (b:Int):=by omega
  simp [dt,mD,h,this]
theorem zT(v:Nat):∀(l:Ln),fW [ti (v:Int)] (cd l)= (cM v l).map λ(i:Nat)=>ti (i:Int)
 | []=>rfl
 | p::r=>by
  have:=zT v r;unfold cd at *
  rw [Se,fW,zN,cM];by_cases h:v=p.1
  .simp [h]
  .simp [h,this]
theorem wY(v i:Nat):∀(l:Ln),gf [ti (v:Int)] (ti (i:Int)) (cd l)=cd (iy v i l)
 | []=>rfl
 | p::r=>by
  have:=wY v i r;unfold cd at *
  rw [Se,gf,zN,iy];by_cases h:v=p.1
  .simp [h]
  .simp [h,this]
theorem zf(v:Nat):∀(l:Ln),iq [ti (v:Int)] (cd l)=cd (jP v l)
 | []=>rfl
 | p::r=>by
  have:=zf v r;unfold cd at *
  rw [Se,iq,zN,jP];by_cases h:v=p.1
  .simp [h]
  .simp [h,this]
theorem wG(u v i:Nat):∀(l:Ln),cM u (iy v i l)=if u=v then some i else cM u l
 | []=>by simp [iy,cM]
 | p::r=>by
  have:=wG u v i r;rw [iy];by_cases h:v=p.1
  .rw [if_pos h];simp only [cM];by_cases a:u=v
   .simp [a]
   .have b:¬u=p.1:=by rw [<-h];exact a
    simp [a,b]
  .rw [if_neg h];simp only [cM,this];by_cases a:u=p.1
   .have b:¬u=v:=λe=>h (by rw [<-e,a]);rw [if_pos a,if_neg b,if_pos a]
   .rw [if_neg a,if_neg a]
def nq:Ln->Prop
 | []=>True
 | p::r=>cM p.1 r=none/\nq r
theorem wF(u v:Nat):∀(l:Ln),nq l->cM u (jP v l)=if u=v then none else cM u l
 | [],_=>by simp [jP,cM]
 | p::r,h=>by
  have:=wF u v r h.2;rw [jP];by_cases hv:v=p.1
  .rw [if_pos hv];by_cases a:u=v
   .rw [if_pos a,a,hv];exact h.1
   .rw [if_neg a,cM,if_neg (by rw [<-hv];exact a)]
  .rw [if_neg hv];simp only [cM,this];by_cases a:u=p.1
   .have b:¬u=v:=λe=>hv (by rw [<-e,a]);rw [if_pos a,if_neg b,if_pos a]
   .rw [if_neg a,if_neg a]
theorem Ak(v i:Nat):∀(l:Ln),nq l->nq (iy v i l)
 | [],_=>⟨rfl,trivial⟩
 | p::r,h=>by
  rw [iy];by_cases hv:v=p.1
  .rw [if_pos hv];exact⟨by rw [hv];exact h.1,h.2⟩
  .rw [if_neg hv];refine⟨?_,Ak v i r h.2⟩;rw [wG,if_neg (λe=>hv e.symm)];exact h.1
theorem F9(v:Nat):∀(l:Ln),nq l->nq (jP v l)
 | [],_=>trivial
 | p::r,h=>by
  rw [jP];by_cases hv:v=p.1
  .rw [if_pos hv];exact h.2
  .rw [if_neg hv];refine⟨?_,F9 v r h.2⟩;rw [wF _ _ _ h.2,if_neg (λe=>hv e.symm)];exact h.1
structure TL where
 ah:List Nat
 mp:Ln
 ak:List (List Nm)
 val:List Vl
 aT:List Nm
structure Fl where
 er:Bool
 eb:Bool
 ec:Bool
 ev:Bool
 eg:Bool
abbrev S1(n:Nat)(rows:List R)(f:Fl)(t:TL):List ab:=
 [ab.box [I (n:Int),AV.t (T.ae 3 f.er (eF rows)),AV.own (Id.c 1),AV.own (Id.c 2),AV.own (Id.c 3),AV.own (Id.c 4),AV.own (Id.c 5)],ab.sl false 1 f.eb (dO t.ah),ab.mp false [Ck.i .i64] (Ck.i .i64) (cd t.mp),
  ab.rows f.ec 1 0 4 t.ak.length (bM 0 t.ak),ab.sl false 8 f.ev (fV t.val),ab.sl false 4 f.eg (bg t.aT)]
abbrev S2(n:Nat)(rows:List R)(f:Fl)(t:TL):List ab:=
 [ab.box [I (n:Int),AV.t (T.ae 3 f.er (eF rows)),AV.own (Id.c 1),AV.own (Id.c 2),AV.own (Id.c 6),AV.own (Id.c 4),AV.own (Id.c 5)],ab.sl false 1 f.eb (dO t.ah),ab.mp false [Ck.i .i64] (Ck.i .i64) (cd t.mp),
  ab.dead,ab.sl false 8 f.ev (fV t.val),ab.sl false 4 f.eg (bg t.aT),ab.rows f.ec 1 0 4 t.ak.length (bM 0 t.ak)]
def gA(n:Nat)(rows:List R)(f:Fl)(t:TL):List T:=
 [ti (n:Int),T.ae 3 f.er (eF rows),T.aS,T.aS,dH f.ec (bM 0 t.ak),T.aS,T.aS,T.ae 1 f.eb (dO t.ah),ee (cd t.mp),T.ae 8 f.ev (fV t.val),T.ae 4 f.eg (bg t.aT)]
theorem hI(n:Nat)(rows:List R)(f:Fl)(t:TL):gA n rows f t= [ti (n:Int),T.ae 3 f.er (eF rows),T.aS,T.aS,dH f.ec (bM 0 t.ak),T.aS,T.aS,T.ae 1 f.eb (dO t.ah),ee (cd t.mp),T.ae 8 f.ev (fV t.val),T.ae 4 f.eg (bg t.aT)]:=rfl
theorem jT{a:Type}(k:Unit->Option a):aa none (if(true:Bool)=true then some () else none) k=k ():=by rw [if_pos rfl];rfl
open Go Go.Aev Go.Aev.Gen Go.Aev.Wd Go.IntKind
def aF(l:List Nm)(v:Nat):Nm:=l.getD v none
theorem qK{l:List Nm}{i:Nat}(h:i < l.length):l[i]? =some (aF l i):=by unfold aF;rw [RO,RR h];rfl
def fY(v:Nat)(a:Vl):List Nat->List (List Nm)->List Vl->List Vl
 | b::bs,x::xs,val=>fY v a bs xs (val.set b (jH (aH val b) (fE a (aF x v))))
 | _,_,val=>val
theorem py{val:List Vl}{i:Nat}(h:i < val.length)(x:Vl)(j:Nat):aH (val.set i x) j=if j=i then x else aH val j:=by
 unfold aH;rw [RO,RO,SW];by_cases a:j=i
 .subst a;simp [h]
 .have:¬i=j:=λe=>a e.symm;simp [a,this]
theorem sJ{m k:Nat}{a:Vl}{b:Nm}(c:VB m a)(hb:QB k (nv b)):VB (m+k) (fE a b):=⟨c.1.mul hb,c.2.mul hb⟩
theorem xz{m k:Nat}{a b:Vl}(c:VB m a)(hb:VB k b):VB (m+k+1) (oo a b):=⟨c.1.sub hb.1,c.2.sub hb.2⟩
abbrev Kd(v:Vl):ab:=ab.box [B (decide ((nv v.1).num < 0)),AV.t (T.str (bA (dz (nv v.1).num))),B (nc v.1),AV.t (T.str (nd v.1)),B (decide ((nv v.2).num < 0)),AV.t (T.str (bA (dz (nv v.2).num))),B (nc v.2),AV.t (T.str (nd v.2))]
structure dM (n m:Nat) (t:TL):Prop where
 b:t.ah.length=m
 c:t.ak.length=m
 r:∀x∈t.ak,x.length=n+m
 v:t.val.length=n+m
 lt:∀b∈t.ah,b < n+m
 nd:t.ah.Nodup
theorem dM.row{n m:Nat}{t:TL}(h:dM n m t){i:Nat}(hi:i < m):(ay t.ak i).length=n+m:=h.r _ (RN (mn (by rw [h.c];exact hi)))
theorem GA(v:Nat)(a:Vl):∀(bs:List Nat) (xs:List (List Nm)) (val:List Vl),(fY v a bs xs val).length=val.length
 | [],_,_=>by simp [fY]
 | _::_,[],_=>by simp [fY]
 | b::bs,x::xs,val=>by rw [fY,GA];simp
section
variable {n:Nat} {rows:List R} (f:Fl) (t:TL)
theorem Q7{m k l:Nat}(d:dM n m t){v:Nat}{w:Vl}(hv:v < n+m)(hm:m<=40)
  (H:VB k w) (u:∀x∈t.ak,QB l (nv (aF x v))) {a:Nat} (M:a+ (k+l)+1<=6300):
  ∀(bs:List Nat) (xs:List (List Nm)) (i:Nat) (val:List Vl),t.ah.drop i=bs->t.ak.drop i=xs->val.length=n+m->(∀b∈bs,VB a (aH val b))->
  Or yw [r0,I (v:Int),AV.ref (Id.c 6) 0,AV.own (Id.c 1),I (t.ah.length:Int),I (i:Int)] (S1 n rows f ⟨t.ah,t.mp,t.ak,val,t.aT⟩ ++ [Kd w])=some (gA n rows f ⟨t.ah,t.mp,t.ak,fY v w bs xs val,t.aT⟩):=by
 intro bs;induction bs with
 | nil=>
  intro xs i val hb p hl o;have h1:¬(i:Int) < (t.ah.length:Int):=by have:=bU hb;omega
  have D:fY v w [] xs val=val:=by cases xs <;> rfl
  rw [D,hI];refine an ?_;simp only [RU,R0];rw [E9];simp only [aj,↓reduceIte,Int.reduceBEq,Int.reduceEq,GD,h1,jI,jT]
 | cons b bs N=>
  intro xs i val hb p hl o;obtain⟨q,V,L⟩:=bR hb;have S:=d.b;have T:=d.c;cases xs with
  | nil=>have:=bU p;omega
  | cons x xs=>
   obtain⟨g,x2,P⟩:=bR p;have U:=d.r x (RN g);have Q:=d.lt b (RN q);have h1:(i:Int) < (t.ah.length:Int):=by omega
   have B: 0<=(i:Int):=by omega
   have C:(i:Int) < (t.ak.length:Int):=by omega
   have s: 0<=(b:Int)/\(b:Int) < (val.length:Int):=by omega
   have G: 0<=(v:Int)/\(v:Int) < (x.length:Int):=by omega
   have y:ay t.ak i=x:=by have:=mn (ak:=t.ak) (i:=i) (by omega);rw [g] at this;exact(Tx this).symm
   have A:=mN (ak:=t.ak) (i:=i) (by omega);have z:=lR (ak:=t.ak) (i:=i) (by omega);rw [y] at A z;have J:=tC H (u x (RN g)) (by omega);have F:=o b RL;have k2:=IZ F (sJ H (u x (RN g))) M;have O:=EW (l:=val) (i:=b) (by omega) (jH (aH val b) (fE w (aF x v)));rw [jb] at J k2;have j:=d.nd;rw [<-Vy i t.ah,hb] at j;have E:b∉bs:=(SU.1 (Tk.1 j).2.1).1;have:=N xs (i+1) (val.set b (jH (aH val b) (fE w (aF x v)))) L P (by rw [SM];exact hl) (λK h=>by
    rw [py (by omega),if_neg (λe=>E (by rw [<-e];exact h))];exact o K (RM _ h))
   simp only [RU,R0] at this;rw [fY];refine an ?_;simp only [RU,R0];rw [E9];simp only [aj,↓reduceIte,Int.reduceBEq,Int.reduceEq,GD,h1,B,C,and_self,ir,kM q,s,e8,nE (oA (val:=val) (i:=b) (by omega)),fD,A,z,G,dP,fU (qK (l:=x) (i:=v) (by omega)),J,k2,O,next i (by omega)];exact this
def dA(v:Nat)(w:Vl)(t:TL):TL:=⟨t.ah,t.mp,t.ak,fY v w t.ah t.ak (t.val.set v (jH (aH t.val v) w)),t.aT⟩
theorem xR{m k l:Nat}(c:dM n m t){v:Nat}{w:Vl}(hv:v < n+m)(hm:m<=40)(g:v∉t.ah)
  (o:VB k w) (r:∀x∈t.ak,QB l (nv (aF x v))) {a:Nat} (q:a+ (k+l)+1<=6300) (d:∀u,u < n+m->VB a (aH t.val u)):
  Or (.call 43) [r0,I (v:Int),EV w] (S1 n rows f t)=some (gA n rows f (dA v w t)):=by
 have h:=c.v;have p:=IZ (d v hv) o (by omega);rw [jb] at p;have s:=EW (l:=t.val) (i:=v) (by omega) (jH (aH t.val v) w);have j: 0<=(v:Int)/\(v:Int) < (t.val.length:Int):=by omega
 have:=Q7 (n:=n) (rows:=rows) f t c hv hm o r q t.ah t.ak 0 (t.val.set v (jH (aH t.val v) w)) rfl rfl (by rw [SM];exact h) (λb hb=>by
  rw [py (by omega),if_neg (λe=>g (by rw [<-e];exact hb))];exact d b (c.lt b hb))
 simp only [RU,R0] at this;refine an ?_;rw [Mt];simp only [aj,↓reduceIte,Int.reduceBEq,Int.reduceEq,GD,j,and_self,e8,nE (oA (val:=t.val) (i:=v) (by omega)),p,s,ir];exact this
end
open Go Go.Aev Go.Aev.Gen Go.Aev.Wd Go.IntKind
def pl(x y:Nm):Nm:=some (nv x+nv y)
def mi(x y:Nm):Nm:=some (nv x - nv y)
def tm(x y:Nm):Nm:=some (nv x * nv y)
def ov(x y:Nm):Nm:=some (nv x / nv y)
def ng(x:Nm):Nm:=some (-(nv x))
def iN(x:Int):Nm:=some (x:Rat)
abbrev QN(m:Nat)(x:Nm):Prop:=QB m (nv x)
abbrev NL(x:Nm):List T:= [tb (decide ((nv x).num < 0)),T.str (bA (dz (nv x).num)),tb (nc x),T.str (nd x)]
theorem AT{m k:Nat}{x y:Nm}(a:QN m x)(b:QN k y)(h:m+k+1<=6300):Or (.call 26) [EN x,EN y] []=some (NL (pl x y)):=xG a b h
theorem Hw{m k:Nat}{x y:Nm}(a:QN m x)(b:QN k y)(h:m+k+1<=6300):Or (.call 24) [EN x,EN y] []=some (NL (mi x y)):=BO a b h
theorem wT{m k:Nat}{x y:Nm}(a:QN m x)(b:QN k y)(h:m+k<=6300):Or (.call 46) [EN x,EN y] []=some (NL (tm x y)):=BP a b h
theorem pd{m k:Nat}{x y:Nm}(b:QN m x)(c:QN k y)(h:m+k<=6300)(a:nv y≠0):Or (.call 28) [EN x,EN y] []=some (NL (ov x y))/\QN (m+k) (ov x y):=Qy b c h a
theorem Hv(x:Nm):Or (.call 59) [EN x] []=some (NL (ng x)):=IY x
theorem nY(x:Int)(h: -9223372036854775808<=x/\x < 9223372036854775808):Or (.call 25) [I x] []=some (NL (iN x)):=xF x h
theorem jz(q:Rat):q.num.sign=0↔q=0:=by rw [VY,Wk]
abbrev ny(x:Nm):ab:=ab.box [B (decide ((nv x).num < 0)),AV.t (T.str (bA (dz (nv x).num))),B (nc x),AV.t (T.str (nd x))]
def gK(c:Nm):List Nm->List Nm->List Nm
 | r::b,y::a=>(if nv r=0 then y else pl y (tm c r))::gK c b a
 | _,a=>a
def iF(row:List Nm)(v:Nat)(l:List Nm):List Nm:=if nv (aF l v)=0 then l else gK (aF l v) row (l.set v none)
theorem xu{c:Type}(a:List c)(b v:c)(r:List c)(i:Nat)(h:a.length=i):(a++b::r).set i v=a++v::r:=by subst h;simp
theorem QK{mr ml mc:Nat}(e0 e3:Bool)(v:Nat)(c:Nm)(row:List Nm)(s:QN mc c)(hr:∀x∈row,QN mr x)(hs:ml+ (mc+mr)+1<=6300)(hrl:row.length<=100):
  ∀(b a dn:List Nm) (k:Nat),row.drop k=b->dn.length=k->b.length=a.length->(∀y∈a,QN ml y)->
  Or rI [AV.own (Id.c 0),AV.ref (Id.c 4) 0,AV.own (Id.c 3),I (row.length:Int),I (k:Int)] [ab.sl false 4 e0 (bg (dn++a)),ab.box [I (v:Int)],ab.box [AV.own (Id.c 3)],ab.sl false 4 e3 (bg row),ny c]=
   some [T.ae 4 e0 (bg (dn++gK c b a)),ti (v:Int),T.aS,T.ae 4 e3 (bg row)]:=by
 intro b;induction b with
 | nil=>
  intro a dn k h o hl hy;have h1:¬(k:Int) < (row.length:Int):=by have:=bU h;omega
  have d:gK c [] a=a:=rfl;rw [d];refine an ?_;rw [zG];simp only [aj,↓reduceIte,Int.reduceBEq,Int.reduceEq,GD,h1]
 | cons r b A=>
  intro a dn k h o hl hy;obtain⟨m,G,q⟩:=bR h;cases a with
  | nil=>simp at hl
  | cons y a=>
   have h1:(k:Int) < (row.length:Int):=by omega
   have j: 0<=(k:Int):=by omega
   have F:(dn++y::a).length=k+1+a.length:=by simp;omega
   have z:(k:Int) < ((dn++y::a).length:Int):=by omega
   have w:(dn++y::a)[k]? =some y:=by rw [SK (by omega),o,Uq];rfl
   have q1:=hr r (RN m);have E:=hy y RL;have ks:=pw r;by_cases g:nv r=0
   .have d:gK c (r::b) (y::a)=y::gK c b a:=by rw [gK,if_pos g]
    have e:=(jz (nv r)).2 g;have:=A a (dn++ [y]) (k+1) q (by simp;omega) (by simpa using hl) (λu p=>hy u (RM _ p));simp only [Sj,RU,R0] at this;rw [d];refine an ?_;rw [zG];simp only [aj,↓reduceIte,Int.reduceBEq,Int.reduceEq,GD,h1,j,and_self,dP,fU m,ks,e,next k (by omega)];exact this
   .have d:gK c (r::b) (y::a)=pl y (tm c r)::gK c b a:=by rw [gK,if_neg g]
    have e:¬(nv r).num.sign=0:=λC=>g ((jz _).1 C);have D:=wT s q1 (by omega);have k2:=AT (x:=y) (y:=tm c r) E (s.mul q1) hs;have B:=nD (l:=dn++y::a) (i:=k) (by omega) (pl y (tm c r));rw [xu _ _ _ _ _ o] at B;have:=A a (dn++ [pl y (tm c r)]) (k+1) q (by simp;omega) (by simpa using hl) (λu p=>hy u (RM _ p));simp only [Sj,RU,R0] at this;rw [d];refine an ?_;rw [zG];simp only [aj,↓reduceIte,Int.reduceBEq,Int.reduceEq,GD,h1,j,z,and_self,dP,fU m,fU w,ks,e,D,k2,B,next k (by omega)];exact this
theorem Jd{mr ml:Nat}(e0 e3:Bool)(v:Nat)(row l:List Nm)(hr:∀x∈row,QN mr x)(hl:∀x∈l,QN ml x)(hs:ml+ (ml+mr)+1<=6300)(hrl:row.length<=100)(g:row.length=l.length)(hv:v < l.length):
  Or (.call 74) [AV.own (Id.c 0),AV.ref (Id.c 1) 0,AV.ref (Id.c 2) 0] [ab.sl false 4 e0 (bg l),ab.box [I (v:Int)],ab.box [AV.own (Id.c 3)],ab.sl false 4 e3 (bg row)]=
   some [T.ae 4 e0 (bg (iF row v l)),ti (v:Int),T.aS,T.ae 4 e3 (bg row)]:=by
 have d: 0<=(v:Int)/\(v:Int) < (l.length:Int):=by omega
 have e:=qK hv;have ks:=pw (aF l v);unfold iF;by_cases b:nv (aF l v)=0
 .have a:=(jz (nv (aF l v))).2 b;rw [if_pos b];refine an ?_;rw [E4];simp only [aj,↓reduceIte,Int.reduceBEq,Int.reduceEq,GD,d,and_self,dP,fU e,ks,a]
 .have a:¬(nv (aF l v)).num.sign=0:=λj=>b ((jz _).1 j);have h:=nD (l:=l) (i:=v) hv none;rw [show [tb (decide ((nv none).num < 0)),T.str (bA (dz (nv none).num)),tb (nc none),T.str (nd none)]= [tb false,T.str (ByteArray.mk #[]),tb false,T.str (ByteArray.mk #[])] from rfl] at h;have:=QK (mr:=mr) (ml:=ml) (mc:=ml) e0 e3 v (aF l v) row (hl _ (RN e)) hr hs hrl row (l.set v none) [] 0 rfl rfl (by simpa using g) (λy hy=>by
   rcases Su hy with h1 | h1
   .exact hl y h1
   .subst h1;exact mb _)
  simp only [R0] at this;rw [if_neg b];refine an ?_;rw [E4];simp only [aj,↓reduceIte,Int.reduceBEq,Int.reduceEq,GD,d,and_self,dP,fU e,ks,a,h];exact this
def fb(row:List Nm)(v i:Nat):Nat->List (List Nm)->List (List Nm)
 | _,[]=> []
 | k,x::xs=>(if k=i then x else iF row v x)::fb row v i (k+1) xs
def bX(x:List Nm)(v b:Nat):List Nm:=((x.map λy=>ng (ov y (aF x v))).set v none).set b (ov (iN 1) (aF x v))
def fI(i v b:Nat)(row:List Nm)(eg:Bool)(t:TL):TL:=
 ⟨t.ah.set i v,iy v i (jP b t.mp),(fb row v i 0 t.ak).set i row,t.val,if eg then t.aT else iF row v t.aT⟩
theorem Bz(row:List Nm)(v i:Nat):∀(xs:List (List Nm)) (k:Nat),(fb row v i k xs).length=xs.length
 | [],_=>rfl
 | x::xs,k=>by simp [fb,Bz row v i xs (k+1)]
section
variable {n:Nat} {rows:List R} (f:Fl) (t:TL)
theorem Q8{m mr ml:Nat}(J:dM n m t)(hn:n<=12)(hm:m<=40){i v b:Nat}(hi:i < m)(hv:v < n+m)(hb:t.ah[i]? =some b)(row:List Nm)(hrl:row.length=n+m)
  (hr:∀x∈row,QN mr x) (O:∀x∈t.ak,∀y∈x,QN ml y) (L:f.eg=false->t.aT.length=n+m/\∀y∈t.aT,QN ml y) (hs:ml+ (ml+mr)+1<=6300):
  ∀(xs dn:List (List Nm)) (k:Nat),dn.length=k->dn.length+xs.length=m->(∀x∈xs,x.length=n+m/\∀y∈x,QN ml y)->
  Or rL [r0,I (i:Int),AV.ref (Id.c 6) 0,I (b:Int),AV.ref (Id.c 7) 0,AV.fn 74 [] [AV.ref (Id.c 6) 0,AV.ref (Id.c 7) 0],I (m:Int),I (k:Int)]
   (S1 n rows f ⟨t.ah,t.mp,dn++xs,t.val,t.aT⟩ ++ [ab.box [I (v:Int)],ab.box [AV.own (Id.c 8)],ab.sl false 4 false (bg row)])=
   some (gA n rows f ⟨t.ah.set i v,iy v i (jP b t.mp),(dn++fb row v i k xs).set i row,t.val,if f.eg then t.aT else iF row v t.aT⟩):=by
 intro xs;have N:=J.b;induction xs with
 | nil=>
  intro dn k s e h;simp only [Sx,UE] at e;have h1:¬(k:Int) < (m:Int):=by omega
  have o: 0<=(i:Int)/\(i:Int) < (dn.length:Int):=by omega
  have p: 0<=(i:Int)/\(i:Int) < (t.ah.length:Int):=by omega
  have a:=mN (ak:=dn) (i:=i) (by omega);have kb:=L9 (l:=t.ah) (i:=i) (by omega) v;have g:((i:Nat):Int).toNat=i:=by omega
  rw [g] at a kb;have B:=JG (bM 0 dn) i dn.length [T.aS] (false,bg row) (jI _ _);have D:=Mb f.ec dn i dn.length row;have d:fb row v i k []= []:=rfl;rw [hI,d,SN];refine an ?_;simp only [RU,R0];rw [zL];cases E:f.eg
  .obtain⟨gl,gq⟩:=L E;have A:=Jd (e0:=false) (e3:=false) v row t.aT hr gq hs (by omega) (by omega) (by omega);simp only [aj,↓reduceIte,Int.reduceBEq,Int.reduceEq,GD,h1,o,p,and_self,fD,ir,g,a,kb,A,R2,zf,wY,B,D,jT];rfl
  .simp only [aj,↓reduceIte,Int.reduceBEq,Int.reduceEq,GD,h1,o,p,and_self,fD,ir,g,a,kb,R2,zf,wY,B,D,jT]
   try rfl
 | cons x xs K=>
  intro dn k s e h;simp only [Sc] at e;have h1:(k:Int) < (m:Int):=by omega
  have F: 0<=(k:Int)/\(k:Int) < ((dn++x::xs).length:Int):=by simp;omega
  have C:ay (dn++x::xs) k=x:=by unfold ay;rw [RO,SK (by omega),s,Uq];rfl
  have a:=mN (ak:=dn++x::xs) (i:=k) (by simp;omega);have j:=lR (ak:=dn++x::xs) (i:=k) (by simp;omega);rw [C] at a j;obtain⟨P,M⟩:=h x RL;by_cases q:k=i
  .subst q;have:=K (dn++ [x]) (k+1) (by simp;omega) (by simp;omega) (λu z=>h u (RM _ z));simp only [Sj,RU,R0] at this;have d:fb row v k k (x::xs)=x::fb row v k (k+1) xs:=by rw [fb,if_pos rfl]
   rw [d];refine an ?_;simp only [RU,R0];rw [zL];simp only [aj,↓reduceIte,Int.reduceBEq,Int.reduceEq,GD,h1,next k (by omega)];exact this
  .have w:¬(k:Int)= (i:Int):=by omega
   have A:=Jd (e0:=false) (e3:=false) v row x hr M hs (by omega) (by omega) (by omega);have r:=P0 (ak:=dn++x::xs) (i:=k) (iF row v x) (by simp;omega);have H:=On (ak:=dn++x::xs) (i:=k) (by simp;omega);rw [xu _ _ _ _ _ s] at r;have:=K (dn++ [iF row v x]) (k+1) (by simp;omega) (by simp;omega) (λu z=>h u (RM _ z));simp only [Sj,RU,R0] at this;have d:fb row v i k (x::xs)=iF row v x::fb row v i (k+1) xs:=by rw [fb,if_neg q]
   have G:(dn++iF row v x::xs).length= (dn++x::xs).length:=by simp
   rw [d];refine an ?_;simp only [RU,R0];rw [zL];simp only [aj,↓reduceIte,Int.reduceBEq,Int.reduceEq,GD,h1,w,F,and_self,fD,a,j,A,R2,H,r,next k (by omega)];rw [G] at this;exact this
theorem Q9{m mc:Nat}(d:dM n m t)(hn:n<=12)(hm:m<=40){i v b:Nat}(hi:i < m)(hv:v < n+m)(hb:t.ah[i]? =some b)
  (e:∀x∈t.ak,∀y∈x,QN mc y) (q:nv (aF (ay t.ak i) v)≠0) (J:f.eg=false->t.aT.length=n+m/\∀y∈t.aT,QN mc y) (hs:mc+ (mc+ (2 * mc+10))+1<=6300):
  ∀(xs:List Nm) (k:Nat),(ay t.ak i).drop k=xs->
  Or uK [r0,I (i:Int),AV.ref (Id.c 6) 0,I (b:Int),AV.ref (Id.c 7) 0,AV.ref (Id.c 8) 0,AV.row (Id.c 3) i,I ((ay t.ak i).length:Int),I (k:Int)]
   (S1 n rows f t++ [ab.box [I (v:Int)],ny (aF (ay t.ak i) v),ab.box [AV.own (Id.c 9)],ab.sl false 4 false (bg (((ay t.ak i).take k).map (λy=>ng (ov y (aF (ay t.ak i) v)))++List.replicate xs.length none))])=
   some (gA n rows f (fI i v b (bX (ay t.ak i) v b) f.eg t)):=by
 have j:=d.c;have K:=d.row hi;have P:b < n+m:=d.lt b (RN hb);have z:=lR (ak:=t.ak) (i:=i) (by omega);have g:ay t.ak i∈t.ak:=RN (mn (by omega));have u:QN mc (aF (ay t.ak i) v):=e _ g _ (RN (qK (by omega)));intro xs;induction xs with
 | nil=>
  intro k h;have h1:¬(k:Int) < ((ay t.ak i).length:Int):=by have:=bU h;omega
  have F:(ay t.ak i).take k=ay t.ak i:=Th (by have:=bU h;omega);have S:((ay t.ak i).map (λy=>ng (ov y (aF (ay t.ak i) v)))).length=n+m:=by simp;omega
  have G: 0<=(v:Int)/\(v:Int) < (((ay t.ak i).map (λy=>ng (ov y (aF (ay t.ak i) v)))).length:Int):=by omega
  have w: 0<=(b:Int)/\(b:Int) < ((((ay t.ak i).map (λy=>ng (ov y (aF (ay t.ak i) v)))).set v none).length:Int):=by rw [SM];omega
  have s:=nY 1 (by omega);have q1:QN 2 (iN 1):=kQ (by decide);obtain⟨k2,M⟩:=pd q1 u (by omega) q;have s1:=nD (l:=(ay t.ak i).map (λy=>ng (ov y (aF (ay t.ak i) v)))) (i:=v) (by omega) none;rw [show [tb (decide ((nv none).num < 0)),T.str (bA (dz (nv none).num)),tb (nc none),T.str (nd none)]= [tb false,T.str (ByteArray.mk #[]),tb false,T.str (ByteArray.mk #[])] from rfl] at s1;have O:=nD (l:=((ay t.ak i).map (λy=>ng (ov y (aF (ay t.ak i) v)))).set v none) (i:=b) (by rw [SM];omega) (ov (iN 1) (aF (ay t.ak i) v));have D:∀x∈bX (ay t.ak i) v b,QN (2 * mc+10) x:=by
   intro x a;unfold bX at a;rcases Su a with a | a
   .rcases Su a with a | a
    .obtain⟨y,hy,rfl⟩:=Si.1 a;exact((pd (e _ g y hy) u (by omega) q).2).neg.mono (by omega)
    .subst a;exact mb _
   .subst a;exact M.mono (by omega)
  have C:(bX (ay t.ak i) v b).length=n+m:=by unfold bX;simp;omega
  have:=Q8 (n:=n) (rows:=rows) (ml:=mc) f t d hn hm hi hv hb (bX (ay t.ak i) v b) C D e J hs t.ak [] 0 rfl (by simpa using j) (λx a=>⟨d.r x a,e x a⟩);simp only [RU,R0] at this;rw [F];simp only [Sx,Tw,SN];refine an ?_;simp only [RU,R0];rw [Fa];simp only [aj,↓reduceIte,Int.reduceBEq,Int.reduceEq,GD,h1,G,w,and_self,dP,s1,O,s,k2,fD,j];rw [j] at this;exact this
 | cons x xs L=>
  intro k h;obtain⟨p,U,H⟩:=bR h;have h1:(k:Int) < ((ay t.ak i).length:Int):=by omega
  have A: 0<=(k:Int):=by omega
  have o:(((ay t.ak i).take k).map (λy=>ng (ov y (aF (ay t.ak i) v)))).length=k:=by simp;omega
  have Q:(((ay t.ak i).take k).map (λy=>ng (ov y (aF (ay t.ak i) v)))++List.replicate (x::xs).length none).length= (ay t.ak i).length:=by rw [SI,o,S0];have:=congrArg List.length h;simp only [Ts] at this;omega
  have B:(k:Int) < ((((ay t.ak i).take k).map (λy=>ng (ov y (aF (ay t.ak i) v)))++List.replicate (x::xs).length none).length:Int):=by omega
  have N:=e _ g x (RN p);obtain⟨s,q1⟩:=pd N u (by omega) q;have k2:=Hv (ov x (aF (ay t.ak i) v));have s1:=nD (l:=((ay t.ak i).take k).map (λy=>ng (ov y (aF (ay t.ak i) v)))++List.replicate (x::xs).length none) (i:=k) (by omega) (ng (ov x (aF (ay t.ak i) v)))
  have E:(((ay t.ak i).take k).map (λy=>ng (ov y (aF (ay t.ak i) v)))++List.replicate (x::xs).length none).set k (ng (ov x (aF (ay t.ak i) v)))=
    ((ay t.ak i).take (k+1)).map (λy=>ng (ov y (aF (ay t.ak i) v)))++List.replicate xs.length none:=by
   rw [Sc,Sv,xu _ _ _ _ _ o,T8,p,UL];simp
  rw [E] at s1;have:=L (k+1) H;simp only [RU,R0] at this;refine an ?_;simp only [RU,R0];rw [Fa];simp only [aj,↓reduceIte,Int.reduceBEq,Int.reduceEq,GD,h1,A,B,and_self,z,dP,fU p,s,k2,s1,next k (by omega)];exact this
theorem wH{k:Nat}(h:k<=100000):bJ (k:Int) (k:Int)=some ():=by unfold bJ;rw [if_pos ⟨by omega,by omega,by unfold eH;omega⟩]
theorem xS{m mc:Nat}(a:dM n m t)(hn:n<=12)(hm:m<=40){i v b:Nat}(hi:i < m)(hv:v < n+m)(hb:t.ah[i]? =some b)
  (s:∀x∈t.ak,∀y∈x,QN mc y) (r:nv (aF (ay t.ak i) v)≠0) (u:f.eg=false->t.aT.length=n+m/\∀y∈t.aT,QN mc y) (hs:mc+ (mc+ (2 * mc+10))+1<=6300):
  Or (.call 44) [r0,I (i:Int),I (v:Int)] (S1 n rows f t)=some (gA n rows f (fI i v b (bX (ay t.ak i) v b) f.eg t)):=by
 have A:=a.c;have z:=a.b;have w:=a.row hi;have h: 0<=(i:Int)/\(i:Int) < (t.ah.length:Int):=by omega
 have j: 0<=(i:Int)/\(i:Int) < (t.ak.length:Int):=by omega
 have q: 0<=(v:Int)/\(v:Int) < ((ay t.ak i).length:Int):=by omega
 have e:=mN (ak:=t.ak) (i:=i) (by omega);have d:=lR (ak:=t.ak) (i:=i) (by omega);have g:=fU (qK (l:=ay t.ak i) (i:=v) (by omega));have o:=wH (k:=(ay t.ak i).length) (by omega);have:=Q9 (n:=n) (rows:=rows) f t a hn hm hi hv hb s r u hs (ay t.ak i) 0 rfl;have p:(((ay t.ak i).length:Nat):Int).toNat= (ay t.ak i).length:=by omega
 simp only [RU,R0,Uc,T0] at this;refine an ?_;rw [Mu];simp only [aj,↓reduceIte,Int.reduceBEq,Int.reduceEq,GD,h,j,q,and_self,ir,kM hb,fD,e,d,dP,g,o,p,zD];exact this
end
open Go Go.Aev Go.Aev.Gen Go.Aev.Wd Go.IntKind
def iz(n:Nat)(s:Nm):List Nm->Nat->List Nm->List Nm
 | [],_,a=>a
 | x::xs,v,a=>if nv x=0 then iz n s xs (v+1) a else iz n s xs (v+1) (a.set (v - n) (ng (tm x s)))
def jv(n m:Nat)(ao:Int)(b:Nat)(row:List Nm):List Nm:=iz n (iN (-ao)) row 0 ((List.replicate m none).set (b - n) (iN (-ao)))
theorem Bh(n:Nat)(s:Nm):∀(xs:List Nm) (v:Nat) (a:List Nm),(iz n s xs v a).length=a.length
 | [],_,_=>rfl
 | x::xs,v,a=>by
  rw [iz];split
  .exact Bh n s xs _ _
  .rw [Bh n s xs];simp
section
variable {n:Nat} {rows:List R} (f:Fl) (t:TL)
theorem Q6{mc:Nat}(o:dM n rows.length t)(hn:n<=12)(hm:rows.length<=40){i:Nat}(hi:i < rows.length){s:Nm}(w:QN 2 s)
  (B:∀y∈ay t.ak i,QN mc y) (hz:∀v,v < n->nv (aF (ay t.ak i) v)=0) (hs:mc+2<=6300):
  ∀(xs:List Nm) (k:Nat) (a:List Nm),(ay t.ak i).drop k=xs->a.length=rows.length->
  Or rK [r0,AV.own (Id.c 6),AV.ref (Id.c 7) 0,AV.row (Id.c 3) i,I ((ay t.ak i).length:Int),I (k:Int)] (S1 n rows f t++ [ab.sl false 4 false (bg a),ny s])=
   some (T.ae 4 false (bg (iz n s xs k a))::gA n rows f t):=by
 have H:=o.c;have C:=o.row hi;have j:=lR (ak:=t.ak) (i:=i) (by omega);intro xs;induction xs with
 | nil=>
  intro k a h p;have h1:¬(k:Int) < ((ay t.ak i).length:Int):=by have:=bU h;omega
  rw [iz,hI];refine an ?_;simp only [RU,R0];rw [zK];simp only [aj,↓reduceIte,Int.reduceBEq,Int.reduceEq,GD,h1,jI,jT]
 | cons x xs z=>
  intro k a h p;obtain⟨g,J,q⟩:=bR h;have h1:(k:Int) < ((ay t.ak i).length:Int):=by omega
  have m: 0<=(k:Int):=by omega
  have ks:=pw x;have G:=B x (RN g);by_cases b:nv x=0
  .have e:=(jz (nv x)).2 b;have d:iz n s (x::xs) k a=iz n s xs (k+1) a:=by rw [iz,if_pos b]
   have:=z (k+1) a q p;simp only [RU,R0] at this;rw [d];refine an ?_;simp only [RU,R0];rw [zK];simp only [aj,↓reduceIte,Int.reduceBEq,Int.reduceEq,GD,h1,m,and_self,j,dP,fU g,ks,e,next k (by omega)];exact this
  .have e:¬(nv x).num.sign=0:=λA=>b ((jz _).1 A);have d:iz n s (x::xs) k a=iz n s xs (k+1) (a.set (k - n) (ng (tm x s))):=by rw [iz,if_neg b]
   have r:¬k < n:=λhk=>b (by
    have:=hz k hk;unfold aF at this;rw [RO,g] at this;exact this)
   have D:=tA r (by omega);have E:=wT G w hs;have k2:=Hv (tm x s);have u: 0<=((k - n:Nat):Int)/\((k - n:Nat):Int) < (a.length:Int):=by omega
   have F:=nD (l:=a) (i:=k - n) (by omega) (ng (tm x s));have:=z (k+1) (a.set (k - n) (ng (tm x s))) q (by rw [SM];exact p);simp only [RU,R0] at this;rw [d];refine an ?_;simp only [RU,R0];rw [zK];simp only [aj,↓reduceIte,Int.reduceBEq,Int.reduceEq,GD,h1,m,and_self,j,dP,fU g,ks,e,D,u,E,k2,F,next k (by omega)];exact this
theorem Jh{mc:Nat}(a:dM n rows.length t)(hn:n<=12)(hm:rows.length<=40){i b:Nat}(hi:i < rows.length)(hb:t.ah[i]? =some b)(B:n<=b){ao:Int}(q:ao=1\/ao= -1)
  (u:∀y∈ay t.ak i,QN mc y) (hz:∀v,v < n->nv (aF (ay t.ak i) v)=0) (hs:mc+2<=6300):
  Or (.call 38) [r0,I (i:Int),I ao] (S1 n rows f t)=some (T.ae 4 false (bg (jv n rows.length ao b (ay t.ak i)))::gA n rows f t):=by
 have C:=a.c;have A:=a.b;have z:=a.lt b (RN hb);have d:=wH (k:=(eF rows).length) (by rw [cY];omega);rw [cY] at d;have s:i64.wrap (0 - ao)= -ao:=by rw [Go.Aev.wr (by omega)];omega
 have w:=nY (-ao) (by omega);have h: 0<=(i:Int)/\(i:Int) < (t.ah.length:Int):=by omega
 have j: 0<=(i:Int)/\(i:Int) < (t.ak.length:Int):=by omega
 have r:=tA (v:=b) (n:=n) (by omega) (by omega);have p:((rows.length:Nat):Int).toNat=rows.length:=by omega
 have m: 0<=((b - n:Nat):Int)/\((b - n:Nat):Int) < ((List.replicate rows.length (none:Nm)).length:Int):=by rw [S0];omega
 have x:=nD (l:=List.replicate rows.length none) (i:=b - n) (by rw [S0];omega) (iN (-ao));have g:=mN (ak:=t.ak) (i:=i) (by omega);have e:=lR (ak:=t.ak) (i:=i) (by omega);have o:QN 2 (iN (-ao)):=by rcases q with rfl | rfl <;> exact kQ (by decide)
 have:=Q6 (n:=n) (rows:=rows) f t a hn hm hi o u hz hs (ay t.ak i) 0 ((List.replicate rows.length none).set (b - n) (iN (-ao))) rfl (by simp);simp only [RU,R0] at this;refine an ?_;rw [Mo];simp only [aj,↓reduceIte,Int.reduceBEq,Int.reduceEq,GD,cY,d,s,w,h,j,and_self,ir,kM hb,r,p,zD,dP,m,x,fD,g,e];exact this
end
def bx(n:Nat)(rows:List R)(val:List Vl)(ao:Int):List Nm->Nat->Option Nat
 | [],_=>none
 | x::xs,v=>if nv x≠0/\fp n rows val v (ao * (nv x).num.sign)=true then some v else bx n rows val ao xs (v+1)
def oh(n:Nat)(rows:List R)(b:Nat)(ao:Int)(i v:Nat)(t:TL):Vl:=fE (oo (if ao > 0 then gY n rows b else bC n rows b) (aH t.val b)) (ov (iN 1) (aF (ay t.ak i) v))
def fL(n:Nat)(rows:List R)(eg:Bool)(b:Nat)(ao:Int)(i v:Nat)(t:TL):TL:=
 fI i v b (bX (ay t.ak i) v b) eg (dA v (oh n rows b ao i v t) t)
theorem tp(q:Rat):q.num.sign=1\/q.num.sign= -1\/q.num.sign=0:=by
 rcases T9 q.num 0 with h | h | h
 .exact .inr (.inl (S5 h))
 .exact .inr (.inr (by rw [h];rfl))
 .exact .inl (S6 h)
theorem dM.mv{n m:Nat}{t:TL}(h:dM n m t)(v:Nat)(w:Vl):dM n m (dA v w t) where
 b:=h.b
 c:=h.c
 r:=h.r
 v:=by show(fY _ _ _ _ _).length=_;rw [GA,SM];exact h.v
 lt:=h.lt
 nd:=h.nd
section
variable {n:Nat} {rows:List R} (f:Fl) (t:TL)
set_option maxRecDepth 20000 in
theorem QT{mv mc:Nat}(sz:Sz n rows)(l:dM n rows.length t){i b:Nat}(hi:i < rows.length)(hb:t.ah[i]? =some b)(hbn:n<=b){ao:Int}(Z:ao=1\/ao= -1)(hge:f.eg=true)
  (K:∀u,u < n+rows.length->VB mv (aH t.val u)) (X:∀x∈t.ak,∀y∈x,QN mc y) (hzb:∀v,nv (aF (ay t.ak i) v)≠0->v∉t.ah)
  (h1s: 20<=mv) (h2s: 3 * mv+2 * mc+10<=6200) (h3s: 4 * mc+20<=6200) (p:Int)
  (hno:bx n rows t.val ao (ay t.ak i) 0=none->∀v,v < n->nv (aF (ay t.ak i) v)=0) {res:List T}
  (d:(match bx n rows t.val ao (ay t.ak i) 0 with
   | none=>some (T.ae 4 false (bg (jv n rows.length ao b (ay t.ak i)))::tb true::gA n rows f t)
   | some v=>Or oL [r0,I p] (S2 n rows f (fL n rows f.eg b ao i v t)))=some res):
  ∀(xs:List Nm) (k:Nat),(ay t.ak i).drop k=xs->bx n rows t.val ao xs k=bx n rows t.val ao (ay t.ak i) 0->
  Or nr [r0,I p,I (b:Int),I ao,I (i:Int),I (-1),AV.row (Id.c 3) i,I ((ay t.ak i).length:Int),I (k:Int)] (S1 n rows f t)=some res:=by
 have hn:=sz.n;have hm:=sz.m;have hcl:=l.c;have hvl:=l.v;have hrow:=l.row hi;have q:=l.lt b (RN hb);have O:=lR (ak:=t.ak) (i:=i) (by omega);have hci:ay t.ak i∈t.ak:=RN (mn (by omega));intro xs;induction xs with
 | nil=>
  intro k h Y;have h1:¬(k:Int) < ((ay t.ak i).length:Int):=by have:=bU h;omega
  have N:bx n rows t.val ao (ay t.ak i) 0=none:=by rw [<-Y];rfl
  have k1:=Jh (n:=n) (rows:=rows) f t l hn hm hi hb hbn Z (X _ hci) (hno N) (by omega);rw [N] at d;simp only at d;rw [hI] at k1 d;rw [<-d];refine an ?_;rw [sn];simp only [aj,↓reduceIte,Int.reduceBEq,Int.reduceEq,GD,jQ,h1,k1,jO,iP,R2,jI,jT]
  try rfl
 | cons x xs ih=>
  intro k h Y;obtain⟨S,g2,g3⟩:=bR h;have h1:(k:Int) < ((ay t.ak i).length:Int):=by omega
  have P: 0<=(k:Int):=by omega
  have ks:=pw x;have qx:=X _ hci x (RN S);by_cases C:nv x=0
  .have z:=(jz (nv x)).2 C;have D:bx n rows t.val ao (x::xs) k=bx n rows t.val ao xs (k+1):=by rw [bx,if_neg (λs=>s.1 C)]
   have M:(!((nv x).num.sign==0))=false:=by rw [z];rfl
   have:=ih (k+1) g3 (by rw [<-D];exact Y);refine an ?_;rw [sn];simp only [dG,aj,↓reduceIte,Int.reduceBEq,Int.reduceEq,GD,h1,P,and_self,O,dP,fU S,ks,z,next k (by omega)];exact this
  .have z:¬(nv x).num.sign=0:=λs=>C ((jz _).1 s);have M:(!((nv x).num.sign==0))=true:=by simpa using z
   have hws:i64.wrap (ao * (nv x).num.sign)=ao * (nv x).num.sign:=by refine Go.Aev.wr ?_;rcases Z with rfl | rfl <;> rcases tp (nv x) with e | e | e <;> rw [e] <;> omega
   have kc:=Jf sz f.er f.eb f.ev f.eg t.ah t.val t.aT hvl K (by omega) (v:=k) (by omega) (ao * (nv x).num.sign);by_cases w:fp n rows t.val k (ao * (nv x).num.sign)=true
   .have D:bx n rows t.val ao (x::xs) k=some k:=by rw [bx,if_pos ⟨C,w⟩]
    have N:bx n rows t.val ao (ay t.ak i) 0=some k:=by rw [<-Y,D]
    have E:aF (ay t.ak i) k=x:=by unfold aF;rw [RO,S];rfl
    have hkb:=hzb k (by rw [E];exact C);have hk1:¬(k:Int) < 0:=by omega
    have V:=tF sz f.er f.eb f.ev f.eg t.ah t.val t.aT q;have U:=xQ sz f.er f.eb f.ev f.eg t.ah t.val t.aT q;have hbv:=nE (oA (val:=t.val) (i:=b) (by omega));have hb1: 0<=(b:Int)/\(b:Int) < (t.val.length:Int):=by omega
    have hi2: 0<=(i:Int)/\(i:Int) < (t.ak.length:Int):=by omega
    have hgi:=mN (ak:=t.ak) (i:=i) (by omega);have k32:=nY 1 (by omega);have q1:QN 2 (iN 1):=kQ (by decide);obtain⟨k83,Q⟩:=pd q1 qx (by omega) C;have hcx:∀y∈t.ak,QB mc (nv (aF y k)):=λy hy=>X y hy _ (RN (qK (by rw [l.r y hy];omega)));rw [N] at d;simp only at d;rcases Z with hw | hw
    .subst hw;have qt:=wD sz q;have F:=xH qt (K b q) (by omega);have qs:=xz qt (K b q);have G:=tC (b:=ov (iN 1) x) qs Q (by omega);have qw:=sJ (b:=ov (iN 1) x) qs Q;have B:=xR (n:=n) (rows:=rows) f t l (v:=k) (by omega) hm hkb qw hcx (a:=mv) (by omega) K;obtain⟨o,g⟩:∃o,o=dA k (fE (oo (gY n rows b) (aH t.val b)) (ov (iN 1) x)) t:=⟨_,rfl⟩;have H:o.ak=t.ak:=by rw [g];rfl
     have J:o.ah[i]? =some b:=by rw [g];exact hb
     rw [<-g] at B;have j:=xS (n:=n) (rows:=rows) f o (by rw [g];exact l.mv _ _) hn hm hi (v:=k) (by omega) J (by rw [H];exact X) (by rw [H,E];exact C) (λs=>by rw [hge] at s;cases s) (by omega);rw [H] at j;have A:fL n rows f.eg b 1 i k t=fI i k b (bX (ay t.ak i) k b) f.eg o:=by unfold fL oh;rw [E,g];rfl
     generalize bX (ay t.ak i) k b=L at j A;generalize hT2:fI i k b L f.eg o=t2 at j A;rw [hI] at B j;rw [jb] at V U F G;simp only [RU,R0] at V U;have W:(1:Int) > 0:=by omega
     rw [A] at d;refine an ?_;rw [sn];simp only [aj,↓reduceIte,Int.reduceBEq,Int.reduceEq,GD,jQ,fu,h1,P,hk1,hb1,hi2,and_self,O,hgi,dP,e8,fD,fU S,hbv,ks,z,M,hws,kc,w,V,U,F,k32,k83,G,B,j,W,jO,iP,R2];exact d
    .subst hw;have qt:=rq sz q;have F:=xH qt (K b q) (by omega);have qs:=xz qt (K b q);have G:=tC (b:=ov (iN 1) x) qs Q (by omega);have qw:=sJ (b:=ov (iN 1) x) qs Q;have B:=xR (n:=n) (rows:=rows) f t l (v:=k) (by omega) hm hkb qw hcx (a:=mv) (by omega) K;obtain⟨o,g⟩:∃o,o=dA k (fE (oo (bC n rows b) (aH t.val b)) (ov (iN 1) x)) t:=⟨_,rfl⟩;have H:o.ak=t.ak:=by rw [g];rfl
     have J:o.ah[i]? =some b:=by rw [g];exact hb
     rw [<-g] at B;have j:=xS (n:=n) (rows:=rows) f o (by rw [g];exact l.mv _ _) hn hm hi (v:=k) (by omega) J (by rw [H];exact X) (by rw [H,E];exact C) (λs=>by rw [hge] at s;cases s) (by omega);rw [H] at j;have A:fL n rows f.eg b (-1) i k t=fI i k b (bX (ay t.ak i) k b) f.eg o:=by unfold fL oh;rw [E,g];rfl
     generalize bX (ay t.ak i) k b=L at j A;generalize hT2:fI i k b L f.eg o=t2 at j A;rw [hI] at B j;rw [jb] at V U F G;simp only [RU,R0] at V U;have W:¬(-1:Int) > 0:=by omega
     rw [A] at d;refine an ?_;rw [sn];simp only [aj,↓reduceIte,Int.reduceBEq,Int.reduceEq,GD,jQ,fu,h1,P,hk1,hb1,hi2,and_self,O,hgi,dP,e8,fD,fU S,hbv,ks,z,M,hws,kc,w,V,U,F,k32,k83,G,B,j,W,jO,iP,R2];exact d
   .have D:bx n rows t.val ao (x::xs) k=bx n rows t.val ao xs (k+1):=by rw [bx,if_neg (λs=>w s.2)]
    have hcan':fp n rows t.val k (ao * (nv x).num.sign)=false:=by simpa using w
    have:=ih (k+1) g3 (by rw [<-D];exact Y);refine an ?_;rw [sn];simp only [aj,↓reduceIte,Int.reduceBEq,Int.reduceEq,GD,h1,P,and_self,O,dP,fU S,ks,z,M,hws,kc,hcan',next k (by omega)];exact this
end
section
variable {n:Nat} {rows:List R} (f:Fl) (t:TL)
set_option maxRecDepth 20000 in
theorem QU{mv mc:Nat}(sz:Sz n rows)(l:dM n rows.length t){i b:Nat}(hi:i < rows.length)(hb:t.ah[i]? =some b)(hbn:n<=b){ao:Int}(Z:ao=1\/ao= -1)(hge:f.eg=true)
  (K:∀u,u < n+rows.length->VB mv (aH t.val u)) (X:∀x∈t.ak,∀y∈x,QN mc y) (hzb:∀v,nv (aF (ay t.ak i) v)≠0->v∉t.ah)
  (h1s: 20<=mv) (h2s: 3 * mv+2 * mc+10<=6200) (h3s: 4 * mc+20<=6200) (p:Int)
  (hno:bx n rows t.val ao (ay t.ak i) 0=none->∀v,v < n->nv (aF (ay t.ak i) v)=0) {res:List T}
  (d:(match bx n rows t.val ao (ay t.ak i) 0 with
   | none=>some (T.ae 4 false (bg (jv n rows.length ao b (ay t.ak i)))::tb true::gA n rows f t)
   | some v=>Or oL [r0,I p] (S2 n rows f (fL n rows f.eg b ao i v t)))=some res):
  ∀(xs:List Nm) (k:Nat),(ay t.ak i).drop k=xs->bx n rows t.val ao xs k=bx n rows t.val ao (ay t.ak i) 0->
  Or nr [r0,I p,I (b:Int),I ao,I (i:Int),I (-1),AV.row (Id.c 6) i,I ((ay t.ak i).length:Int),I (k:Int)] (S2 n rows f t)=some res:=by
 have hn:=sz.n;have hm:=sz.m;have hcl:=l.c;have hvl:=l.v;have hrow:=l.row hi;have q:=l.lt b (RN hb);have O:=lR (ak:=t.ak) (i:=i) (by omega);have hci:ay t.ak i∈t.ak:=RN (mn (by omega));intro xs;induction xs with
 | nil=>
  intro k h Y;have h1:¬(k:Int) < ((ay t.ak i).length:Int):=by have:=bU h;omega
  have N:bx n rows t.val ao (ay t.ak i) 0=none:=by rw [<-Y];rfl
  have k1:=Jh (n:=n) (rows:=rows) f t l hn hm hi hb hbn Z (X _ hci) (hno N) (by omega);rw [N] at d;simp only at d;rw [hI] at k1 d;rw [<-d];refine an ?_;rw [so];simp only [aj,↓reduceIte,Int.reduceBEq,Int.reduceEq,GD,jQ,h1,k1,jO,iP,R2,jI,jT]
  try rfl
 | cons x xs ih=>
  intro k h Y;obtain⟨S,g2,g3⟩:=bR h;have h1:(k:Int) < ((ay t.ak i).length:Int):=by omega
  have P: 0<=(k:Int):=by omega
  have ks:=pw x;have qx:=X _ hci x (RN S);by_cases C:nv x=0
  .have z:=(jz (nv x)).2 C;have D:bx n rows t.val ao (x::xs) k=bx n rows t.val ao xs (k+1):=by rw [bx,if_neg (λs=>s.1 C)]
   have M:(!((nv x).num.sign==0))=false:=by rw [z];rfl
   have:=ih (k+1) g3 (by rw [<-D];exact Y);refine an ?_;rw [so];simp only [dG,aj,↓reduceIte,Int.reduceBEq,Int.reduceEq,GD,h1,P,and_self,O,dP,fU S,ks,z,next k (by omega)];exact this
  .have z:¬(nv x).num.sign=0:=λs=>C ((jz _).1 s);have M:(!((nv x).num.sign==0))=true:=by simpa using z
   have hws:i64.wrap (ao * (nv x).num.sign)=ao * (nv x).num.sign:=by refine Go.Aev.wr ?_;rcases Z with rfl | rfl <;> rcases tp (nv x) with e | e | e <;> rw [e] <;> omega
   have kc:=Jf sz f.er f.eb f.ev f.eg t.ah t.val t.aT hvl K (by omega) (v:=k) (by omega) (ao * (nv x).num.sign);by_cases w:fp n rows t.val k (ao * (nv x).num.sign)=true
   .have D:bx n rows t.val ao (x::xs) k=some k:=by rw [bx,if_pos ⟨C,w⟩]
    have N:bx n rows t.val ao (ay t.ak i) 0=some k:=by rw [<-Y,D]
    have E:aF (ay t.ak i) k=x:=by unfold aF;rw [RO,S];rfl
    have hkb:=hzb k (by rw [E];exact C);have hk1:¬(k:Int) < 0:=by omega
    have V:=tF sz f.er f.eb f.ev f.eg t.ah t.val t.aT q;have U:=xQ sz f.er f.eb f.ev f.eg t.ah t.val t.aT q;have hbv:=nE (oA (val:=t.val) (i:=b) (by omega));have hb1: 0<=(b:Int)/\(b:Int) < (t.val.length:Int):=by omega
    have hi2: 0<=(i:Int)/\(i:Int) < (t.ak.length:Int):=by omega
    have hgi:=mN (ak:=t.ak) (i:=i) (by omega);have k32:=nY 1 (by omega);have q1:QN 2 (iN 1):=kQ (by decide);obtain⟨k83,Q⟩:=pd q1 qx (by omega) C;have hcx:∀y∈t.ak,QB mc (nv (aF y k)):=λy hy=>X y hy _ (RN (qK (by rw [l.r y hy];omega)));rw [N] at d;simp only at d;rcases Z with hw | hw
    .subst hw;have qt:=wD sz q;have F:=xH qt (K b q) (by omega);have qs:=xz qt (K b q);have G:=tC (b:=ov (iN 1) x) qs Q (by omega);have qw:=sJ (b:=ov (iN 1) x) qs Q;have B:=xR (n:=n) (rows:=rows) f t l (v:=k) (by omega) hm hkb qw hcx (a:=mv) (by omega) K;obtain⟨o,g⟩:∃o,o=dA k (fE (oo (gY n rows b) (aH t.val b)) (ov (iN 1) x)) t:=⟨_,rfl⟩;have H:o.ak=t.ak:=by rw [g];rfl
     have J:o.ah[i]? =some b:=by rw [g];exact hb
     rw [<-g] at B;have j:=xS (n:=n) (rows:=rows) f o (by rw [g];exact l.mv _ _) hn hm hi (v:=k) (by omega) J (by rw [H];exact X) (by rw [H,E];exact C) (λs=>by rw [hge] at s;cases s) (by omega);rw [H] at j;have A:fL n rows f.eg b 1 i k t=fI i k b (bX (ay t.ak i) k b) f.eg o:=by unfold fL oh;rw [E,g];rfl
     generalize bX (ay t.ak i) k b=L at j A;generalize hT2:fI i k b L f.eg o=t2 at j A;rw [hI] at B j;rw [jb] at V U F G;simp only [RU,R0] at V U;have W:(1:Int) > 0:=by omega
     rw [A] at d;refine an ?_;rw [so];simp only [aj,↓reduceIte,Int.reduceBEq,Int.reduceEq,GD,jQ,fu,h1,P,hk1,hb1,hi2,and_self,O,hgi,dP,e8,fD,fU S,hbv,ks,z,M,hws,kc,w,V,U,F,k32,k83,G,B,j,W,jO,iP,R2];exact d
    .subst hw;have qt:=rq sz q;have F:=xH qt (K b q) (by omega);have qs:=xz qt (K b q);have G:=tC (b:=ov (iN 1) x) qs Q (by omega);have qw:=sJ (b:=ov (iN 1) x) qs Q;have B:=xR (n:=n) (rows:=rows) f t l (v:=k) (by omega) hm hkb qw hcx (a:=mv) (by omega) K;obtain⟨o,g⟩:∃o,o=dA k (fE (oo (bC n rows b) (aH t.val b)) (ov (iN 1) x)) t:=⟨_,rfl⟩;have H:o.ak=t.ak:=by rw [g];rfl
     have J:o.ah[i]? =some b:=by rw [g];exact hb
     rw [<-g] at B;have j:=xS (n:=n) (rows:=rows) f o (by rw [g];exact l.mv _ _) hn hm hi (v:=k) (by omega) J (by rw [H];exact X) (by rw [H,E];exact C) (λs=>by rw [hge] at s;cases s) (by omega);rw [H] at j;have A:fL n rows f.eg b (-1) i k t=fI i k b (bX (ay t.ak i) k b) f.eg o:=by unfold fL oh;rw [E,g];rfl
     generalize bX (ay t.ak i) k b=L at j A;generalize hT2:fI i k b L f.eg o=t2 at j A;rw [hI] at B j;rw [jb] at V U F G;simp only [RU,R0] at V U;have W:¬(-1:Int) > 0:=by omega
     rw [A] at d;refine an ?_;rw [so];simp only [aj,↓reduceIte,Int.reduceBEq,Int.reduceEq,GD,jQ,fu,h1,P,hk1,hb1,hi2,and_self,O,hgi,dP,e8,fD,fU S,hbv,ks,z,M,hws,kc,w,V,U,F,k32,k83,G,B,j,W,jO,iP,R2];exact d
   .have D:bx n rows t.val ao (x::xs) k=bx n rows t.val ao xs (k+1):=by rw [bx,if_neg (λs=>w s.2)]
    have hcan':fp n rows t.val k (ao * (nv x).num.sign)=false:=by simpa using w
    have:=ih (k+1) g3 (by rw [<-D];exact Y);refine an ?_;rw [so];simp only [aj,↓reduceIte,Int.reduceBEq,Int.reduceEq,GD,h1,P,and_self,O,dP,fU S,ks,z,M,hws,kc,hcan',next k (by omega)];exact this
end
end Go.Aev.Wd.Lg
