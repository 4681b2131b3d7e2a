import Derived.Test.YticjdhgokemdlaaMostSureQ6
import Derived.Test.YticjdhgokemdlaaMostSureQ15
set_option linter.all false
namespace Go.Aev.Wd.Lg
open Go Go.Aev Go.Aev.Gen
noncomputable abbrev wH:Key:=aZ aq 10 true 10 [(2,none),(3,none),(9,none),(11,some 3),(32,none),(33,none),(34,none)] (0,0)
noncomputable abbrev py:Key:=aZ aq 5 true 3 [(0,none),(1,none),(2,none),(6,none),(7,none),(8,none)] (0,0)
noncomputable abbrev px:Key:=aZ aq 5 true 10 [(2,none),(6,none),(7,none),(9,none)] (0,0)
theorem xF(O:aA)(er eg ep:Bool)(r g p:JL)(n:Int):aE aq ann O (Key.call 10) [Jl 3 er r,I n,Jl 1 eg g,Jl 2 ep p] []=
 (G0 (O (.call 14) [Jl 3 er r,I n,Jl 1 eg g] []) λa c=>bif !a==0 then some [Jb false,Ji a,Ji c] else bif !(p.length:Int)==n then some [Jb false,Ji 9,Ji 0] else G3 (O (.call 23) [Jl 2 ep p] []) λb=>bif b then some [Jb false,Ji 5,Ji 0] else O wH [Jl 1 eg g,Jl 2 ep p,Jr 0,Jo 1,Jl 3 er r,I (r.length:Int),I 0] [aa.box [I 0,I 0],aa.sl false 3 true []]):=by kernel_rfl
theorem A2(O:aA)(h a i g:Bool)(o m j l:JL)(k c d f:Int):aE aq ann O wH [Jl 1 h o,Jl 2 a m,Jr 0,Jo 1,Jl 3 i j,I k,I c] [aa.box [I d,I f],aa.sl false 3 g l]=
 (bif decide (c < k) then G1 c j λp n u=>Jg (small 40 (l.length+ [[T.ae 1 p.fst p.snd,Ji n,Ji 0]].length)) λx=>O wH [Jl 1 h o,Jl 2 a m,Jr 0,Jo 1,Jl 3 i j,I k,I (Jw c)] [aa.box [I d,I f],aa.sl false 3 (g && false) (l++ [[T.ae 1 p.fst p.snd,Ji n,Ji 0]])] else G3 (O (.call 24) [Jl 3 g l,Jl 2 a m] []) λb=>G6 (some b) (cv (some b) (O (.call 25) [Jl 2 a m] [])) λp=>G7 (some b) (cv (some b) (O (.call 19) [Jl 1 h o,Jl 4 p.fst p.snd] [])) λq s r t=>G8 (some b) (cv (some b) (O (.call 30) [Ja q s r t] [])) λn=>some [Jb (bif b then decide (n > 0) else false),Ji 0,Ji 0]):=by kernel_rfl
theorem FK(O:aA)(a b:Bool)(c f:JL)(d:Int):aE aq ann O (Key.call 5) [Jl 3 a c,I d,Jl 1 b f] []=
 (G0 (O (.call 11) [Jl 3 a c,I d] []) λn g=>O py [Jl 3 a c,I d,Jl 1 b f,Jr 0,Jr 1,I 0] [aa.box [I 0,I 0],aa.box [I n,I g]]):=by kernel_rfl
theorem xC(O:aA)(i d:Bool)(k g:JL)(l h a b c f:Int):aE aq ann O py [Jl 3 i k,I l,Jl 1 d g,Jr 0,Jr 1,I h] (Y7 a b c f)=
 (bif bif decide (h < (k.length:Int)) then c==0 else false then zw h k λn=>bif n==2 then G0 (O (.call 12) [I 4,I h] []) λn j=>O py [Jl 3 i k,I l,Jl 1 d g,Jr 0,Jr 1,I (Jw h)] (Y7 a b n j) else O py [Jl 3 i k,I l,Jl 1 d g,Jr 0,Jr 1,I (Jw h)] (Y7 a b c f) else bif bif c==0 then decide ((g.length:Int) > l) else false then G0 (O (.call 12) [I 9,I 0] []) λn j=>O px [Jl 1 d g,Jr 0,Jr 1,I 0] (Y7 a b n j) else O px [Jl 1 d g,Jr 0,Jr 1,I 0] (Y7 a b c f)):=by kernel_rfl
theorem tJ(O:aA)(h:Bool)(i:JL)(g c d a f:Int):aE aq ann O px [Jl 1 h i,Jr 0,Jr 1,I g] (Y7 c d a f)=
 (bif bif decide (g < (i.length:Int)) then a==0 else false then G2 g i λn=>G3 (O (.call 13) [I n] []) λb=>bif !b then G0 (O (.call 12) [I 5,I g] []) λn j=>O px [Jl 1 h i,Jr 0,Jr 1,I (Jw g)] (Y7 c d n j) else O px [Jl 1 h i,Jr 0,Jr 1,I (Jw g)] (Y7 c d a f) else some [Ji a,Ji f]):=by kernel_rfl
end Go.Aev.Wd.Lg
namespace Go.Aev.Gen
open Go Go.Aev
structure gz (n:Nat) (r:R):Prop where
 e:r.e=true->r.of= []
 kd:r.kd=1\/r.kd=2\/r.kd=3
 len:r.of.length<=n
 of:Bd 1000000 r.of
 tv: -1000000<=r.tv/\r.tv<=1000000
theorem Ei:∀{l:List Int} {i:Nat},(jt l i).1=0->∀x∈l, -1000000<=x/\x<=1000000
 | [],_,_,x,a=>by cases a
 | y::l,i,h,x,a=>by
  rw [jt] at h;split at h
  .rename_i hy;rcases Tg.1 a with rfl | a
   .exact hy
   .exact Ei h x a
  .simp at h
theorem Eh:∀{l:List Int} {i:Nat},(∀x∈l, -1000000<=x/\x<=1000000)->(jt l i).1=0
 | [],_,_=>rfl
 | y::l,i,h=>by rw [jt,if_pos (h y SW)];exact Eh (λx a=>h x (SY _ a))
theorem K3{n:Nat}{r:R}(a:r.e=true->r.of= [])(h:(ju n r).1=0):gz n r:=by
 unfold ju at h;split at h
 .simp at h
 .rename_i c;split at h
  .simp at h
  .have:=Ei h;exact⟨a,by omega,by omega,λx b=>this x (Tf _ b),this r.tv (by simp)⟩
theorem El{n:Nat}:∀{rows:List R} {i:Nat},(∀r∈rows,r.e=true->r.of= [])->(iR n rows i).1=0->∀r∈rows,gz n r
 | [],_,_,_,r,hr=>by cases hr
 | q::rows,i,b,h,r,hr=>by
  rw [iR] at h;split at h
  .rename_i a;rcases Tg.1 hr with rfl | hr
   .exact K3 (b _ SW) a
   .exact El (λr hr=>b r (SY _ hr)) h r hr
  .rename_i a;exact absurd h a
def fG(n:Int)(rows:List R):Int×Int:=if n < 0\/n > 12 then(3, -1) else mZ n.toNat rows
theorem IV(rows:List R)(e:Bool)(n:Int)(hr:∀r∈rows,r.e=true->r.of= []):Or (.call 22) [LR e rows,I n] []=fl (fG n rows):=by
 unfold fG;by_cases h:n < 0\/n > 12
 .rw [if_pos h];refine an ?_;rw [Fe];simp only [gX,<-Ug];simp only [ak,↓reduceIte,Int.reduceBEq,Int.reduceEq,GD,h]
 .rw [if_neg h];have:=QE rows n.toNat e (by omega) hr;rw [Int.toNat_of_nonneg (by omega)] at this;exact this
theorem QK(rows:List R)(e:Bool)(n:Int):Or (.call 11) [LR e rows,I n] []=fl (fG n rows):=by
 unfold fG;by_cases h:n < 0\/n > 12
 .rw [if_pos h];refine an ?_;rw [e7];simp only [gX,<-Ug];simp only [ak,↓reduceIte,Int.reduceBEq,Int.reduceEq,GD,h,s8]
 .rw [if_neg h];have:=QL rows n.toNat e (by omega);rw [Int.toNat_of_nonneg (by omega)] at this;exact this
theorem Am{n:Int}{rows:List R}(hr:∀r∈rows,r.e=true->r.of= [])(h:(fG n rows).1=0): 0<=n/\n<=12/\rows.length<=40/\∀r∈rows,gz n.toNat r:=by
 unfold fG at h;split at h
 .simp at h
 .unfold mZ at h;split at h
  .simp at h
  .exact⟨by omega,by omega,by omega,El hr h⟩
end Go.Aev.Gen
namespace Go.Aev.Wd.Lg
open Go Go.Aev Go.Aev.Gen Go.Aev.Wd
open Go Go.Aev Go.Aev.Gen Go.Aev.Wd Go.Aev.Tb
def dX:List R->Nat->Int×Int
 | [],_=>(0,0)
 | r::a,i=>if r.kd=2 then(4,(i:Int)) else dX a (i+1)
def cQ:List Int->Nat->Int×Int
 | [],_=>(0,0)
 | x::xs,i=>if -1000000<=x/\x<=1000000 then cQ xs (i+1) else(5,(i:Int))
def eJ(n:Int)(rows:List R)(gl:List Int):Int×Int:=
 if(fG n rows).1≠0 then fG n rows else if(dX rows 0).1≠0 then dX rows 0 else if(gl.length:Int) > n then(9,0) else cQ gl 0
theorem GV:∀{rows:List R} {i:Nat},(dX rows i).1=0->∀r∈rows,r.kd≠2
 | [],_,_,r,hr=>by cases hr
 | q::rows,i,h,r,hr=>by
  rw [dX] at h;split at h
  .simp at h
  .rename_i a;rcases Tg.1 hr with rfl | hr
   .exact a
   .exact GV h r hr
theorem GB:∀{gl:List Int} {i:Nat},(cQ gl i).1=0->∀c∈gl, -1000000<=c/\c<=1000000
 | [],_,_,r,hr=>by cases hr
 | q::rows,i,h,r,hr=>by
  rw [cQ] at h;split at h
  .rename_i a;rcases Tg.1 hr with rfl | hr
   .exact a
   .exact GB h r hr
  .simp at h
theorem xT:∀(gl:List Int) (i:Nat),(cQ gl i).1=0->cQ gl i= (0,0)
 | [],_,_=>rfl
 | q::rows,i,h=>by
  rw [cQ] at h⊢;split
  .rename_i a;rw [if_pos a] at h;exact xT rows _ h
  .rename_i a;rw [if_neg a] at h;simp at h
theorem Sb(er:Bool)(rows:List R)(p:rows.length<=1000):∀(a:List R) (i:Nat),rows.drop i=a->
  Or og [LR er rows,AV.fn 33 [] [],I (rows.length:Int),I (i:Int)] []=some [ti (if(dX a i).1=0 then -1 else(dX a i).2)]:=by
 intro a;induction a with
 | nil=>
  intro i h;have h1:¬(i:Int) < (rows.length:Int):=by have:=bF h;omega
  refine an ?_;rw [AT];simp only [ak,↓reduceIte,Int.reduceBEq,Int.reduceEq,GD,h1,dX]
 | cons r a m=>
  intro i h;obtain⟨g,o,l⟩:=bz h;have h1:(i:Int) < (rows.length:Int):=by omega
  have j: 0<=(i:Int):=by omega
  have f:Or (.call 33) [AV.agg [ae r.e r.of,I r.kd,I r.tv]] []=some [tb (r.kd==2)]:=an (by rw [MN]);have:=m (i+1) l;by_cases b:r.kd=2
  .have d:dX (r::a) i= (4,(i:Int)):=by rw [dX,if_pos b]
   have k:¬(4:Int)=0:=by decide
   have c:(r.kd==2)=true:=by simpa using b
   rw [d];rw [c] at f;refine an ?_;rw [AT];simp only [ak,↓reduceIte,Int.reduceBEq,Int.reduceEq,GD,h1,j,and_self,bB,eC g,f,k]
  .have d:dX (r::a) i=dX a (i+1):=by rw [dX,if_neg b]
   have c:(r.kd==2)=false:=by simpa using b
   rw [d];refine an ?_;rw [AT];simp only [ak,↓reduceIte,Int.reduceBEq,Int.reduceEq,GD,h1,j,and_self,bB,eC g,f,c,b,next i (by omega)];exact this
theorem Sc(el:Bool)(gl:List Int)(q:gl.length<=1000):∀(c:List Int) (i:Nat),gl.drop i=c->
  Or vI [ae el gl,AV.fn 35 [] [],I (gl.length:Int),I (i:Int)] []=some [ti (if(cQ c i).1=0 then -1 else(cQ c i).2)]:=by
 intro c;induction c with
 | nil=>
  intro i h;have h1:¬(i:Int) < (gl.length:Int):=by have:=bF h;omega
  refine an ?_;rw [AE];simp only [ak,↓reduceIte,Int.reduceBEq,Int.reduceEq,GD,h1,cQ]
 | cons r c o=>
  intro i h;obtain⟨g,p,m⟩:=bz h;have h1:(i:Int) < (gl.length:Int):=by omega
  have j: 0<=(i:Int):=by omega
  have:=o (i+1) m;by_cases l: -1000000<=r/\r<=1000000
  .have f:Or (.call 35) [I r] []=some [tb false]:=an (by
    rw [FW];have a:¬r < -1000000:=by omega
    have b:¬r > 1000000:=by omega
    simp only [rk,a,b,if_false,decide_false,wY])
   have d:cQ (r::c) i=cQ c (i+1):=by rw [cQ,if_pos l]
   rw [d];refine an ?_;rw [AE];simp only [ak,↓reduceIte,Int.reduceBEq,Int.reduceEq,GD,h1,j,and_self,bN,fW g,f,next i (by omega)];exact this
  .have f:Or (.call 35) [I r] []=some [tb true]:=an (by
    rw [FW];by_cases a:r < -1000000
    .simp only [rk,a,if_true,decide_true,tB]
    .have b:r > 1000000:=by omega
     simp only [rk,a,b,if_false,decide_true,decide_false,wY])
   have d:cQ (r::c) i= (5,(i:Int)):=by rw [cQ,if_neg l]
   have k:¬(5:Int)=0:=by decide
   rw [d];refine an ?_;rw [AE];simp only [ak,↓reduceIte,Int.reduceBEq,Int.reduceEq,GD,h1,j,and_self,bN,fW g,f,k]
theorem N6(rows:List R):∀(i:Nat),(dX rows i).1=0\/((dX rows i).1=4/\(i:Int)<=(dX rows i).2):=by
 induction rows with
 | nil=>intro i;exact .inl rfl
 | cons r rows a=>
  intro i;rw [dX];split
  .exact .inr ⟨rfl,WD _⟩
  .rcases a (i+1) with h | ⟨h,b⟩
   .exact .inl h
   .exact .inr ⟨h,by omega⟩
theorem NP(gl:List Int):∀(i:Nat),(cQ gl i).1=0\/((cQ gl i).1=5/\(i:Int)<=(cQ gl i).2):=by
 induction gl with
 | nil=>intro i;exact .inl rfl
 | cons r rows a=>
  intro i;rw [cQ];split
  .rcases a (i+1) with h | ⟨h,b⟩
   .exact .inl h
   .exact .inr ⟨h,by omega⟩
  .exact .inr ⟨rfl,WD _⟩
theorem K1{n:Int}{rows:List R}(h:(fG n rows).1=0):fG n rows= (0,0):=by
 unfold fG at h⊢;split
 .rename_i b;rw [if_pos b] at h;simp at h
 .rename_i b;rw [if_neg b] at h;unfold mZ at h⊢;split
  .rename_i c;rw [if_pos c] at h;simp at h
  .rename_i c;rw [if_neg c] at h;have d:∀(l:List R) (i:Nat),(iR n.toNat l i).1=0->iR n.toNat l i= (0,0):=by
    intro l;induction l with
    | nil=>intro i _;rfl
    | cons r l f=>
     intro i h;rw [iR] at h⊢;split
     .rename_i a;rw [if_pos a] at h;exact f _ h
     .rename_i a;rw [if_neg a] at h;exact absurd h a
   exact d _ _ h
theorem C1(rows:List R)(er el:Bool)(n:Int)(gl:List Int)(hr:∀r∈rows,r.e=true->r.of= []):Or (.call 14) [LR er rows,I n,ae el gl] []=fl (eJ n rows gl):=by
 have c:=IV rows er n hr;unfold eJ;by_cases h1:(fG n rows).1=0
 .have m:=Am hr h1;rw [if_neg (by omega)];have k2:Or (.call 32) [LR er rows,AV.fn 33 [] []] []=_:=an (by rw [ML,bB];exact Sb er rows (by omega) rows 0 rfl);rcases N6 rows 0 with g | ⟨g,k⟩
  .rw [if_pos g] at k2;have b:¬(-1:Int)>=0:=by decide
   by_cases a:(gl.length:Int) > n
   .rw [if_neg (by omega),if_pos a];refine an ?_;rw [tK];simp only [ak,↓reduceIte,Int.reduceBEq,Int.reduceEq,GD,c,h1,k2,b,bN,a]
   .have f:Or (.call 34) [ae el gl,AV.fn 35 [] []] []=_:=an (by rw [Lx,bN];exact Sc el gl (by omega) gl 0 rfl);rw [if_neg (by omega),if_neg a];rcases NP gl 0 with d | ⟨d,l⟩
    .rw [if_pos d] at f;rw [xT _ _ d];refine an ?_;rw [tK];simp only [ak,↓reduceIte,Int.reduceBEq,Int.reduceEq,GD,c,h1,k2,b,bN,a,f]
    .rw [if_neg (by omega)] at f;have j:(cQ gl 0).2>=0:=by omega
     have h:cQ gl 0= (5,(cQ gl 0).2):=V9 d rfl;refine an ?_;rw [tK,h];simp only [ak,↓reduceIte,Int.reduceBEq,Int.reduceEq,GD,c,h1,k2,b,bN,a,f,j]
  .rw [if_neg (by omega)] at k2;have i:(dX rows 0).2>=0:=by omega
   have h:dX rows 0= (4,(dX rows 0).2):=V9 g rfl;rw [if_pos (by omega)];refine an ?_;rw [tK,h];simp only [ak,↓reduceIte,Int.reduceBEq,Int.reduceEq,GD,c,h1,k2,i]
 .rw [if_pos h1];refine an ?_;rw [tK];simp only [ak,↓reduceIte,Int.reduceBEq,Int.reduceEq,GD,c,h1]
theorem wZ{n:Int}{rows:List R}{gl:List Int}(hr:∀r∈rows,r.e=true->r.of= [])(h:(eJ n rows gl).1=0):
  eJ n rows gl= (0,0)/\0<=n/\n<=12/\rows.length<=40/\(∀r∈rows,gz n.toNat r)/\(∀r∈rows,r.kd≠2)/\(gl.length:Int)<=n/\∀c∈gl, -1000000<=c/\c<=1000000:=by
 unfold eJ at h⊢;by_cases h1:(fG n rows).1=0
 .rw [if_neg (by omega)] at h⊢;obtain⟨d,f,g,i⟩:=Am hr h1;by_cases a:(dX rows 0).1=0
  .rw [if_neg (by omega)] at h⊢;by_cases b:(gl.length:Int) > n
   .rw [if_pos b] at h;simp at h
   .rw [if_neg b] at h⊢;exact⟨xT _ _ h,d,f,g,i,GV a,by omega,GB h⟩
  .rw [if_pos a] at h;exact absurd h a
 .rw [if_pos h1] at h;exact absurd h h1
def fN(x:Fr):Nm:=some (ba x)
theorem yt{x:Fr}(h:mh x):Or (.call 27) [AV.agg [I x.1,I x.2]] []=some (NL (fN x)):=Rz x.1 x.2 (by unfold mh at h;omega) (by unfold mh at h;omega) (by unfold mh at h;omega)
theorem rD{x:Fr}(h:mh x):QN 30 (fN x):=NA h.1 h.2
theorem Sd(x:Fr):Or (.call 56) [AV.agg [I x.1,I x.2]] []=some [tb (!decide (bH x))]:=by
 have k:=CF x;refine an ?_;rw [MQ];by_cases h:bH x
 .rw [if_pos h] at k;simp only [ak,↓reduceIte,Int.reduceBEq,Int.reduceEq,GD,k,h,decide_true]
  try rfl
 .rw [if_neg h] at k;simp only [ak,↓reduceIte,Int.reduceBEq,Int.reduceEq,GD,k,h,decide_false]
  try rfl
theorem Ss(e:Bool)(l:List Fr)(p:l.length<=1000):∀(a:List Fr) (i:Nat),l.drop i=a->∃z:Int,Or wG [LN e l,AV.fn 56 [] [],I (l.length:Int),I (i:Int)] []=some [ti z]/\(decide (z>=0)= !(a.all λx=>decide (bH x))):=by
 intro a;induction a with
 | nil=>
  intro i h;have h1:¬(i:Int) < (l.length:Int):=by have:=bF h;omega
  refine⟨-1,an ?_,by simp⟩;rw [AZ];simp only [ak,↓reduceIte,Int.reduceBEq,Int.reduceEq,GD,h1]
 | cons x a j=>
  intro i h;obtain⟨d,o,g⟩:=bz h;have h1:(i:Int) < (l.length:Int):=by omega
  have f: 0<=(i:Int):=by omega
  have c:=Sd x;by_cases b:bH x
  .rw [decide_eq_true b] at c;obtain⟨z,k,m⟩:=j (i+1) g;refine⟨z,an ?_,by rw [m];simp [b]⟩;rw [AZ];simp only [ak,↓reduceIte,Int.reduceBEq,Int.reduceEq,GD,h1,f,and_self,fm,oA d,c,next i (by omega)];exact k
  .rw [decide_eq_false b] at c;refine⟨(i:Int),an ?_,by simp [b]⟩;rw [AZ];simp only [ak,↓reduceIte,Int.reduceBEq,Int.reduceEq,GD,h1,f,and_self,fm,oA d,c]
theorem y6(e:Bool)(l:List Fr)(a:l.length<=1000):Or (.call 23) [LN e l] []=some [tb (!(l.all λx=>decide (bH x)))]:=by obtain⟨z,c,d⟩:=Ss e l a l 0 rfl;have b:Or (.call 77) [LN e l,AV.fn 56 [] []] []=some [ti z]:=an (by rw [M8,fm];exact c);have k2:Or (.call 55) [LN e l,AV.fn 56 [] []] []=some [tb (decide (z>=0))]:=an (by rw [MP];simp only [ak,↓reduceIte,Int.reduceBEq,Int.reduceEq,GD,b]);refine an ?_;rw [My];simp only [ak,↓reduceIte,Int.reduceBEq,Int.reduceEq,GD,k2,d]
theorem RN(e:Bool)(l:List Fr)(u:l.length<=1000)(p:∀x∈l,mh x):∀(b a:List Fr) (i:Nat),l.drop i=b->a.length=i->a++b=l->
  Or wo [AV.own (Id.c 0),LN e l,I (l.length:Int),I (i:Int)] [aa.sl false 4 (decide (a= [])) (aQ (a.map fN))]=some [T.ae 4 (decide (l= [])) (aQ (l.map fN))]:=by
 intro b;induction b with
 | nil=>
  intro a i h o d;have h1:¬(i:Int) < (l.length:Int):=by have:=bF h;omega
  rw [T7] at d;subst d;refine an ?_;rw [FM];simp only [ak,↓reduceIte,Int.reduceBEq,Int.reduceEq,GD,h1]
 | cons x b q=>
  intro a i h o d;obtain⟨f,t,j⟩:=bz h;have h1:(i:Int) < (l.length:Int):=by omega
  have k: 0<=(i:Int):=by omega
  have r:=yt (p x (SX f));have s:small 48 ((aQ (a.map fN)).length+ [[tb (decide ((nv (fN x)).num < 0)),T.str (bC (dz (nv (fN x)).num)),tb (nc (fN x)),T.str (nd (fN x))]].length)=some ():=jE (by rw [bA];simp;omega);have:=q (a++ [x]) (i+1) j (by simp;omega) (by simpa using d);have g:decide (a++ [x]= [])=false:=by simp
  have m:aQ (a.map fN)++ [[tb (decide ((nv (fN x)).num < 0)),T.str (bC (dz (nv (fN x)).num)),tb (nc (fN x)),T.str (nd (fN x))]]=aQ ((a++ [x]).map fN):=by rw [Mq,AL,US];rfl
  rw [g] at this;refine an ?_;rw [FM];simp only [ak,↓reduceIte,Int.reduceBEq,Int.reduceEq,GD,h1,k,and_self,fm,oA f,r,s,m,next i (by omega)];exact this
theorem C3(e:Bool)(l:List Fr)(a:l.length<=1000)(b:∀x∈l,mh x):Or (.call 25) [LN e l] []=some [T.ae 4 (decide (l= [])) (aQ (l.map fN))]:=by have:=RN e l a b l [] 0 rfl rfl rfl;refine an ?_;rw [MB,fm];exact this
def aU:List Int->List Rat->Rat
 | c::of,x::xs=>(c:Rat) * x+aU of xs
 | _,_=>0
theorem pI(xs:List Rat):aU [] xs=0:=by cases xs <;> rfl
theorem RM(eg e:Bool)(gl:List Int)(a:List Nm)(D:∀c∈gl, -1000000<=c/\c<=1000000)(M:gl.length<=a.length)(N:gl.length<=100){m:Nat}(E:∀x∈a,QN m x)(z:Nm):
  ∀(b:List Int) (i:Nat) (d:Nm) (k:Nat),gl.drop i=b->QN k d->k+ (m+21) * b.length<=6300->
  ∃y,Or wm [AV.t (T.ae 4 e (aQ a)),r0,AV.ref (Id.c 1) 0,ae eg gl,I (gl.length:Int),I (i:Int)] [gN z,gN d]=some (NL y)/\nv y=nv d+aU b ((a.drop i).map nv)/\QN (k+ (m+21) * b.length) y:=by
 intro b;induction b with
 | nil=>
  intro i d k h g q;have h1:¬(i:Int) < (gl.length:Int):=by have:=bF h;omega
  refine⟨d,an ?_,by rw [pI];grind,g.mono (by omega)⟩;rw [FL];simp only [ak,↓reduceIte,Int.reduceBEq,Int.reduceEq,GD,h1]
 | cons c b F=>
  intro i d k h g q;obtain⟨p,L,w⟩:=bz h;rw [Tr,WG,Wp] at q;have h1:(i:Int) < (gl.length:Int):=by omega
  have A: 0<=(i:Int):=by omega
  have B:(i:Int) < (a.length:Int):=by omega
  have K:=D c (SX p);have r:=fy c (by omega);have j:QN 20 (iN c):=dS (by omega);have f:=gg (l:=a) (i:=i) (by omega);have o:=E _ (SX f);have u:=kT j o (by omega);have s:=mG (x:=d) (y:=tm (iN c) (ao a i)) g (j.mul o) (by omega);obtain⟨y,G,H,J⟩:=F (i+1) (pl d (tm (iN c) (ao a i))) (k+ (m+21)) w ((g.add (j.mul o)).mono (by omega)) (by omega);have C:(a.drop i).map nv=nv (ao a i):: (a.drop (i+1)).map nv:=by
   have:a.drop i=ao a i::a.drop (i+1):=by rw [UB (by omega)];congr 1;rw [SZ (by omega)] at f;exact TE f
   rw [this];rfl
  refine⟨y,an ?_, ?_,by rw [Tr,WG,Wp];exact J.mono (by omega)⟩
  .rw [FL];simp only [ak,↓reduceIte,Int.reduceBEq,Int.reduceEq,GD,h1,A,B,and_self,bN,fW p,r,bA,cg f,u,s,next i (by omega)];exact G
  .rw [H,C,aU];show nv d+ (c:Rat) * nv (ao a i)+ _=_;grind
theorem C2(eg e:Bool)(gl:List Int)(a:List Nm)(b:∀c∈gl, -1000000<=c/\c<=1000000)(d:gl.length<=a.length)(f:gl.length<=12){m:Nat}(g:∀x∈a,QN m x)(hm:m<=400):
  ∃y,Or (.call 19) [ae eg gl,AV.t (T.ae 4 e (aQ a))] []=some (NL y)/\nv y=aU gl (a.map nv)/\QN 6000 y:=by
 have hb:(m+21) * gl.length<=(m+21) * 12:=Nat.mul_le_mul_left _ f;obtain⟨y,h,i,j⟩:=RM eg e gl a b d (by omega) g none gl 0 none 0 rfl (im 0) (by omega);refine⟨y,an ?_,by rw [i,rY,We];grind,j.mono (by omega)⟩;rw [MA,bN];exact h
theorem RI(er e:Bool)(of:List Int)(l:List Fr)(hb:∀c∈of, -1000000<=c/\c<=1000000)(C:∀x∈l,mh x)(K:of.length<=l.length)(L:of.length<=12)(z:Nm):
  ∀(a:List Int) (i:Nat) (b:Nm) (k:Nat),of.drop i=a->QN k b->k+51 * a.length<=6300->
  ∃y,Or zD [LN e l,r0,AV.ref (Id.c 1) 0,ae er of,I (of.length:Int),I (i:Int)] [gN z,gN b]=some (NL y)/\nv y=nv b+aU a ((l.drop i).map ba)/\QN (k+51 * a.length) y:=by
 intro a;induction a with
 | nil=>
  intro i b k h f p;have h1:¬(i:Int) < (of.length:Int):=by have:=bF h;omega
  refine⟨b,an ?_,by rw [pI];grind,f.mono (by omega)⟩;rw [FG];simp only [ak,↓reduceIte,Int.reduceBEq,Int.reduceEq,GD,h1]
 | cons c a D=>
  intro i b k h f p;obtain⟨o,J,u⟩:=bz h;rw [Tr,WG,Wp] at p;have h1:(i:Int) < (of.length:Int):=by omega
  have w: 0<=(i:Int):=by omega
  have A:(i:Int) < (l.length:Int):=by omega
  have H:=hb c (SX o);have r:=fy c (by omega);have j:QN 20 (iN c):=dS (by omega);obtain⟨x,d⟩:∃x,l[i]? =some x:=⟨_,SZ (by omega)⟩;have g:=C x (SX d);have q:=yt g;have m:=rD g;have t:=kT j m (by omega);have s:=mG (x:=b) (y:=tm (iN c) (fN x)) f (j.mul m) (by omega);obtain⟨y,E,F,G⟩:=D (i+1) (pl b (tm (iN c) (fN x))) (k+51) u ((f.add (j.mul m)).mono (by omega)) (by omega);have B:(l.drop i).map ba=ba x:: (l.drop (i+1)).map ba:=by
   have:l.drop i=x::l.drop (i+1):=by rw [UB (by omega)];congr 1;rw [SZ (by omega)] at d;exact TE d
   rw [this];rfl
  refine⟨y,an ?_, ?_,by rw [Tr,WG,Wp];exact G.mono (by omega)⟩
  .rw [FG];simp only [ak,↓reduceIte,Int.reduceBEq,Int.reduceEq,GD,h1,w,A,and_self,bN,fW o,r,fm,oA d,q,t,s,next i (by omega)];exact E
  .rw [F,B,aU];show nv b+ (c:Rat) * ba x+ _=_;grind
theorem Sr(r:R)(n:Nat)(d:n<=12)(ok:gz n r):Or (.call 54) [AV.agg [ae r.e r.of,I r.kd,I r.tv],I (n:Int)] []=some [ti 0,ti 0]:=by
 have b:=IW r n d ok.e;have c:ju n r= (0,0):=by
  have h1:=ok.kd;have g:=ok.len;unfold ju;rw [if_neg (by omega),if_neg (by omega)];have:∀(m:List Int) (i:Nat),(∀x∈m, -1000000<=x/\x<=1000000)->jt m i= (0,0):=by
   intro m;induction m with
   | nil=>intro i _;rfl
   | cons y m f=>intro i h;rw [jt,if_pos (h y SW)];exact f _ λx a=>h x (SY _ a)
  refine this _ 0 λx a=> ?_;rcases Tm.1 a with a | a
  .exact ok.of x a
  .rw [Tc.1 a];exact ok.tv
 rw [c] at b;exact b
theorem RH(e:Bool)(l:List Fr)(m:l.length<=100)(g:∀x∈l,bH x):∀(a:List Fr) (i:Nat),l.drop i=a->Or wg [r0,LN e l,I (l.length:Int),I (i:Int)] [aa.box [I 0,I 0]]=some [ti 0,ti 0]:=by
 intro a;induction a with
 | nil=>
  intro i h;have h1:¬(i:Int) < (l.length:Int):=by have:=bF h;omega
  refine an ?_;rw [FF];simp only [ak,↓reduceIte,Int.reduceBEq,Int.reduceEq,GD,h1]
 | cons x a j=>
  intro i h;obtain⟨b,k,d⟩:=bz h;have h1:(i:Int) < (l.length:Int):=by omega
  have f: 0<=(i:Int):=by omega
  have c:=CF x;rw [if_pos (g x (SX b))] at c;refine an ?_;rw [FF];simp only [ak,↓reduceIte,Int.reduceBEq,Int.reduceEq,GD,h1,f,and_self,fm,oA b,c,next i (by omega)];exact j (i+1) d
def eL(r:R)(q:Rat):Bool:=if r.kd=1 then decide (q<=(r.tv:Rat)) else if r.kd=2 then decide (q < (r.tv:Rat)) else decide (q= (r.tv:Rat))
theorem Sf(r:R)(e:Bool)(l:List Fr)(B:l.length<=12)(ok:gz l.length r)(p:∀x∈l,bH x):
  Or (.call 59) [AV.agg [ae r.e r.of,I r.kd,I r.tv],LN e l] []=some [tb (eL r (aU r.of (l.map ba))),ti 0,ti 0]:=by
 have q:=Sr r l.length B ok;have i:=RH e l (by omega) p l 0 rfl;have a:Or (.call 78) [AV.agg [ae r.e r.of,I r.kd,I r.tv],LN e l] []=some [ti 0,ti 0]:=by refine an ?_;rw [Mt];simp only [ak,↓reduceIte,Int.reduceBEq,Int.reduceEq,GD,fm,q];exact i
 have A:=ok.len;have F:=ok.tv;obtain⟨y,C,D,E⟩:=RI r.e e r.of l ok.of (λx h=>(p x h).b) ok.len (by omega) none r.of 0 none 0 rfl (im 0) (by omega);have c:Or (.call 79) [AV.agg [ae r.e r.of,I r.kd,I r.tv],LN e l] []=some (NL y):=an (by rw [Mu,bN];exact C);have f:=fy r.tv (by omega);have d:=nU (x:=y) (y:=iN r.tv) (m:=0+51 * r.of.length) (k:=20) E (dS (by omega)) (by omega);have hy:nv y=aU r.of (l.map ba):=by rw [D,rY,We];grind
 have hv:nv (iN r.tv)= (r.tv:Rat):=rfl;rw [hy,hv] at d;have s:=tA (aU r.of (l.map ba)) (r.tv:Rat);have t:=jM (aU r.of (l.map ba)) (r.tv:Rat);have o:=Ap (aU r.of (l.map ba)) (r.tv:Rat);have u:decide (cq (aU r.of (l.map ba)) (r.tv:Rat)<=0)=decide (aU r.of (l.map ba)<=(r.tv:Rat)):=by refine decide_eq_decide.2 ⟨λh=>Wk.1 λj=>by have:=o.2 j;omega,λh=>Int.not_lt.1 λj=>by have:=o.1 j;grind⟩
 have w:decide (cq (aU r.of (l.map ba)) (r.tv:Rat) < 0)=decide (aU r.of (l.map ba) < (r.tv:Rat)):=decide_eq_decide.2 s;have z:(cq (aU r.of (l.map ba)) (r.tv:Rat)==0)=decide (aU r.of (l.map ba)= (r.tv:Rat)):=by rw [ou];exact decide_eq_decide.2 t
 unfold eL;by_cases h1:r.kd=1
 .rw [if_pos h1];refine an ?_;rw [AW];simp only [ak,↓reduceIte,Int.reduceBEq,Int.reduceEq,GD,a,c,f,d];rw [if_pos h1,u]
 .by_cases g:r.kd=2
  .rw [if_neg h1,if_pos g];refine an ?_;rw [AW];simp only [ak,↓reduceIte,Int.reduceBEq,Int.reduceEq,GD,a,c,f,d];rw [if_neg h1,if_pos g,w]
  .rw [if_neg h1,if_neg g];refine an ?_;rw [AW];simp only [ak,↓reduceIte,Int.reduceBEq,Int.reduceEq,GD,a,c,f,d];rw [if_neg h1,if_neg g,z]
theorem Se(er:Bool)(rows:List R)(e:Bool)(l:List Fr)(j:l.length<=12)(ok:∀r∈rows,gz l.length r)(k:∀x∈l,bH x)(s:rows.length<=40):
  ∀(a:List R) (i:Nat),rows.drop i=a->∃z:Int,Or og [LR er rows,AV.fn 58 [] [AV.t (T.ptr [T.ae 2 e (gF l)])],I (rows.length:Int),I (i:Int)] []=some [ti z]/\(decide (z>=0)= !(a.all λr=>eL r (aU r.of (l.map ba)))):=by
 intro a;induction a with
 | nil=>
  intro i h;have h1:¬(i:Int) < (rows.length:Int):=by have:=bF h;omega
  refine⟨-1,an ?_,by simp⟩;rw [AU];simp only [ak,↓reduceIte,Int.reduceBEq,Int.reduceEq,GD,h1]
 | cons r a m=>
  intro i h;obtain⟨c,q,g⟩:=bz h;have h1:(i:Int) < (rows.length:Int):=by omega
  have d: 0<=(i:Int):=by omega
  have f:=Sf r e l j (ok r (SX c)) k;have b:Or (.call 58) [AV.agg [ae r.e r.of,I r.kd,I r.tv],AV.t (T.ptr [T.ae 2 e (gF l)])] []=some [tb (!(eL r (aU r.of (l.map ba))))]:=an (by rw [MS];simp only [ak,↓reduceIte,Int.reduceBEq,Int.reduceEq,GD,f]);cases hb:eL r (aU r.of (l.map ba))
  .rw [hb] at b;refine⟨(i:Int),an ?_,by simp [hb]⟩;rw [AU];simp only [ak,↓reduceIte,Int.reduceBEq,Int.reduceEq,GD,h1,d,and_self,bB,eC c,b]
  .rw [hb] at b;obtain⟨z,o,p⟩:=m (i+1) g;refine⟨z,an ?_,by rw [p];simp [hb]⟩;rw [AU];simp only [ak,↓reduceIte,Int.reduceBEq,Int.reduceEq,GD,h1,d,and_self,bB,eC c,b,next i (by omega)];exact o
theorem JY(er:Bool)(rows:List R)(e:Bool)(l:List Fr)(b:l.length<=12)(ok:∀r∈rows,gz l.length r)(c:∀x∈l,bH x)(a:rows.length<=40):
  Or (.call 24) [LR er rows,LN e l] []=some [tb (rows.all λr=>eL r (aU r.of (l.map ba)))]:=by
 obtain⟨z,f,g⟩:=Se er rows e l b ok c a rows 0 rfl;have d:Or (.call 32) [LR er rows,AV.fn 58 [] [AV.t (T.ptr [T.ae 2 e (gF l)])]] []=some [ti z]:=an (by rw [MM,bB];exact f);have k2:Or (.call 57) [LR er rows,AV.fn 58 [] [AV.t (T.ptr [T.ae 2 e (gF l)])]] []=some [tb (decide (z>=0))]:=an (by rw [MR];simp only [ak,↓reduceIte,Int.reduceBEq,Int.reduceEq,GD,d]);refine an ?_;rw [Mz];simp only [ak,↓reduceIte,Int.reduceBEq,Int.reduceEq,GD,k2,g,Bool.not_not]
open Go Go.Aev Go.Aev.Gen Go.Aev.Wd Go.Aev.Tb
def gB(t:Nm):List Int->List Nm->List Nm
 | c::cs,g::a=>pl g (tm (iN c) t)::gB t cs a
 | _,a=>a
def fF:List R->List Nm->List Nm×Nm->List Nm×Nm
 | r::a,x::xs,p=>fF a xs (gB x r.of p.1,pl p.2 (tm (iN r.tv) x))
 | _,_,p=>p
theorem zR(t:Nm):∀(c:List Int) (g:List Nm),(gB t c g).length=g.length
 | [],_=>by simp [gB]
 | _::_,[]=>by simp [gB]
 | c::cs,g::a=>by simp [gB,zR t cs a]
theorem Dy{m k:Nat}{t:Nm}(f:QN k t):∀(c:List Int) (g:List Nm),(∀x∈c, -1000000<=x/\x<=1000000)->(∀x∈g,QN m x)->∀x∈gB t c g,QN (m+ (20+k)+1) x
 | [],g,_,b=>by intro x a;simp [gB] at a;exact(b x a).mono (by omega)
 | _::_,[],_,_=>by intro x a;simp [gB] at a
 | c::cs,g::i,d,b=>by
  intro x a;rw [gB] at a;have l:=d c SW;have j:QN 20 (iN c):=dS (by omega);rcases Tg.1 a with rfl | a
  .exact(b g SW).add (j.mul f)
  .exact Dy f cs i (λx h=>d x (SY _ h)) (λx h=>b x (SY _ h)) x a
theorem Dz(t:Nm):∀(c:List Int) (g:List Nm) (k:Nat),k < g.length->nv (ao (gB t c g) k)=nv (ao g k)+ ((c.getD k 0:Int):Rat) * nv t
 | [],g,k,_=>by show nv (ao g k)=nv (ao g k)+ ((0:Int):Rat) * nv t;have:((0:Int):Rat)=0:=rfl;rw [this];grind
 | _::_,[],k,h=>by simp at h
 | c::cs,g::a,0,_=>rfl
 | c::cs,g::a,k+1,h=>Dz t cs a k (by simpa using h)
section
variable (er e:Bool) (rows:List R) (ts:List Nm) {n:Nat}
theorem RP{mt mg:Nat}(Z:n<=12)(hm:rows.length<=40)(V:rows.length<=ts.length)(O:∀x∈ts,QN mt x){i:Nat}(hi:i < rows.length)(ok:gz n (aS rows i))(s:(aS rows i).kd≠2)(z:Nm){to:Nm}(L:QN mg to)
  (hs:mg+ (20+mt)+1<=6300) {res:List T} {D:List Nm}
  (C:Or wu [AV.t (T.ae 4 e (aQ ts)),r0,AV.own (Id.c 1),AV.ref (Id.c 2) 0,B false,LR er rows,I (rows.length:Int),I ((i+1:Nat):Int)] [gN z,aa.sl false 4 false (aQ D),gN (pl to (tm (iN (aS rows i).tv) (ao ts i)))]=some res):
  ∀(d:List Int) (a b:List Nm) (j:Nat),(aS rows i).of.drop j=d->b.length=j->d.length<=a.length->(∀y∈a,QN mg y)->b++gB (ao ts i) d a=D->
  Or zE [AV.t (T.ae 4 e (aQ ts)),r0,AV.own (Id.c 1),AV.ref (Id.c 2) 0,B false,I (i:Int),AV.ref (Id.c 3) 0,LR er rows,I (rows.length:Int),I (i:Int),ae (aS rows i).e (aS rows i).of,I ((aS rows i).of.length:Int),I (j:Int)]
   [gN z,aa.sl false 4 false (aQ (b++a)),gN to,aa.box [ae (aS rows i).e (aS rows i).of,I (aS rows i).kd,I (aS rows i).tv]]=some res:=by
 have f:=gg (l:=ts) (i:=i) (by omega);have q:=O _ (SX f);have r: 0<=(i:Int)/\(i:Int) < (ts.length:Int):=by omega
 have W:=ok.len;intro d;induction d with
 | nil=>
  intro a b j h w A hy p;have h1:¬(j:Int) < ((aS rows i).of.length:Int):=by have:=bF h;omega
  have F:gB (ao ts i) [] a=a:=rfl;rw [F] at p;have X:=ok.tv;have g:=fy (aS rows i).tv (by omega);have o:QN 20 (iN (aS rows i).tv):=dS (by omega);have m:=kT o q (by omega);have k:=mG (x:=to) (y:=tm (iN (aS rows i).tv) (ao ts i)) L (o.mul q) hs;have K:((aS rows i).kd==2)=false:=by simpa using s
  rw [p];refine an ?_;rw [FO];simp only [bD,ak,↓reduceIte,Int.reduceBEq,Int.reduceEq,GD,h1,g,r,and_self,bA,cg f,m,k,K,s,Ts,TS,next i (by omega)];exact C
 | cons c d Q=>
  intro a b j h w A hy p;obtain⟨E,Y,N⟩:=bz h;cases a with
  | nil=>simp at A
  | cons y a=>
   have h1:(j:Int) < ((aS rows i).of.length:Int):=by omega
   have H: 0<=(j:Int):=by omega
   have J:(j:Int) < ((b++y::a).length:Int):=by simp;omega
   have G:(b++y::a)[j]? =some y:=by rw [T4 (by omega),w,VF];rfl
   have U:=ok.of c (SX E);have g:=fy c (by omega);have o:QN 20 (iN c):=dS (by omega);have S:=hy y SW;have m:=kT o q (by omega);have k:=mG (x:=y) (y:=tm (iN c) (ao ts i)) S (o.mul q) hs;have M:=jQ (l:=b++y::a) (i:=j) (by omega) (pl y (tm (iN c) (ao ts i)));rw [qm _ _ _ _ _ w] at M;have:=Q a (b++ [pl y (tm (iN c) (ao ts i))]) (j+1) N (by simp;omega) (by simpa using A) (λu P=>hy u (SY _ P)) (by rw [<-p];simp [gB]);simp only [TN,S7,S8] at this;refine an ?_;rw [FO];simp only [ak,↓reduceIte,Int.reduceBEq,Int.reduceEq,GD,h1,H,J,r,and_self,bN,fW E,bA,cg G,cg f,g,m,k,M,next j (by omega)];exact this
theorem RQ{mt:Nat}(K:n<=12)(hm:rows.length<=40)(Q:rows.length=ts.length)(w:∀x∈ts,QN mt x)(ok:∀r∈rows,gz n r)(u:∀r∈rows,r.kd≠2)(z:Nm):
  ∀(a:List R) (xs:List Nm) (i mg:Nat) (c:List Nm) (to:Nm),rows.drop i=a->ts.drop i=xs->c.length=n->(∀y∈c,QN mg y)->QN mg to->mg+ (mt+21) * a.length<=6300->
  Or wu [AV.t (T.ae 4 e (aQ ts)),r0,AV.own (Id.c 1),AV.ref (Id.c 2) 0,B false,LR er rows,I (rows.length:Int),I (i:Int)] [gN z,aa.sl false 4 false (aQ c),gN to]=
   some (T.ae 4 false (aQ (fF a xs (c,to)).1):: (NL (fF a xs (c,to)).2++ [tb false]))/\
  (∀y∈(fF a xs (c,to)).1,QN (mg+ (mt+21) * a.length) y)/\QN (mg+ (mt+21) * a.length) (fF a xs (c,to)).2/\(fF a xs (c,to)).1.length=n:=by
 intro a;induction a with
 | nil=>
  intro xs i mg c to h o m d f hs;have h1:¬(i:Int) < (rows.length:Int):=by have:=bF h;omega
  have q:fF [] xs (c,to)= (c,to):=rfl;rw [q];refine⟨an ?_,λy hy=>(d y hy).mono (by omega),f.mono (by omega),m⟩;rw [FN];simp only [ak,↓reduceIte,Int.reduceBEq,Int.reduceEq,GD,h1];rfl
 | cons r a L=>
  intro xs i mg c to h o m d f hs;obtain⟨k,U,G⟩:=bz h;rw [Tr,WG,Wp] at hs⊢;cases xs with
  | nil=>have:=bF o;omega
  | cons x xs=>
   obtain⟨C,x2,P⟩:=bz o;have h1:(i:Int) < (rows.length:Int):=by omega
   have H: 0<=(i:Int):=by omega
   have b:aS rows i=r:=by have:=o7 (rows:=rows) (i:=i) (by omega);rw [k] at this;exact(TE this).symm
   have j:ao ts i=x:=by have:=gg (l:=ts) (i:=i) (by omega);rw [C] at this;exact(TE this).symm
   have g:=SX k;have oV:=ok r g;have A:=w x (SX C);have S:=oV.tv;have O:QN 20 (iN r.tv):=dS (by omega);have M:∀y∈gB x r.of c,QN (mg+ (mt+21)) y:=λy hy=>(Dy A r.of c oV.of d y hy).mono (by omega);have N:QN (mg+ (mt+21)) (pl to (tm (iN r.tv) x)):=(f.add (O.mul A)).mono (by omega);obtain⟨p,D,E,F⟩:=L xs (i+1) (mg+ (mt+21)) (gB x r.of c) (pl to (tm (iN r.tv) x)) G P (by rw [zR];exact m) M N (by omega);have s:fF (r::a) (x::xs) (c,to)=fF a xs (gB x r.of c,pl to (tm (iN r.tv) x)):=rfl;rw [s];refine⟨an ?_,λy hy=>(D y hy).mono (by omega),E.mono (by omega),F⟩;have J:=oV.len;rw [<-b,<-j] at p;have:=RP er e rows ts (n:=n) K hm (by omega) w (i:=i) (by omega) (by rw [b];exact oV) (by rw [b];exact u r g) z f (mg:=mg) (by omega) p (aS rows i).of c [] 0 rfl rfl (by rw [b];omega) d rfl;rw [b,j] at this;simp only [S8] at this;rw [FN];simp only [ak,↓reduceIte,Int.reduceBEq,Int.reduceEq,GD,h1,H,and_self,bB,eC k,bN];exact this
theorem RO{mt:Nat}(j:n<=12)(hm:rows.length<=40)(b:rows.length=ts.length)(l:∀x∈ts,QN mt x)(ok:∀r∈rows,gz n r)(a:∀r∈rows,r.kd≠2)(hs:mt<=130):
  Or (.call 28) [LR er rows,I (n:Int),AV.t (T.ae 4 e (aQ ts))] []=
   some (T.ae 4 false (aQ (fF rows ts (List.replicate n none,none)).1):: (NL (fF rows ts (List.replicate n none,none)).2++ [tb false]))/\
  (∀y∈(fF rows ts (List.replicate n none,none)).1,QN 6100 y)/\QN 6100 (fF rows ts (List.replicate n none,none)).2/\(fF rows ts (List.replicate n none,none)).1.length=n:=by
 have hb:(mt+21) * rows.length<=(130+21) * 40:=Wz (by omega) hm;obtain⟨f,g,h,i⟩:=RQ er e rows ts (n:=n) j hm b l ok a none rows ts 0 0 (List.replicate n none) none rfl rfl (by simp) (λy hy=>by rw [UE hy];exact im _) (im _) (by omega);have c:=pW (k:=n) (by omega);have d:((n:Nat):Int).toNat=n:=by omega
 refine⟨an ?_,λy hy=>(g y hy).mono (by omega),h.mono (by omega),i⟩;rw [MC];simp only [ak,↓reduceIte,Int.reduceBEq,Int.reduceEq,GD,c,d,rz,bB];exact f
end
def iS:List R->List Rat->Nat->Rat
 | r::a,t::ts,k=>((r.of.getD k 0:Int):Rat) * t+iS a ts k
 | _,_,_=>0
def lh:List R->List Rat->Rat
 | r::a,t::ts=>(r.tv:Rat) * t+lh a ts
 | _,_=>0
theorem Eb:∀(a:List R) (xs:List Nm) (c:List Nm) (to:Nm) (k:Nat),k < c.length->nv (ao (fF a xs (c,to)).1 k)=nv (ao c k)+iS a (xs.map nv) k
 | [],xs,c,to,k,_=>by
  have:iS [] (xs.map nv) k=0:=by cases xs <;> rfl
  rw [this];show nv (ao c k)=_;grind
 | r::a,[],c,to,k,_=>by show nv (ao c k)=nv (ao c k)+0;grind
 | r::a,x::xs,c,to,k,h=>by have b:fF (r::a) (x::xs) (c,to)=fF a xs (gB x r.of c,pl to (tm (iN r.tv) x)):=rfl;rw [b,Eb a xs _ _ k (by rw [zR];exact h),Dz _ _ _ _ h,TQ,iS];grind
theorem Ec:∀(a:List R) (xs:List Nm) (c:List Nm) (to:Nm),nv (fF a xs (c,to)).2=nv to+lh a (xs.map nv)
 | [],xs,c,to=>by
  have:lh [] (xs.map nv)=0:=by cases xs <;> rfl
  rw [this];show nv to=_;grind
 | r::a,[],c,to=>by show nv to=nv to+0;grind
 | r::a,x::xs,c,to=>by have b:fF (r::a) (x::xs) (c,to)=fF a xs (gB x r.of c,pl to (tm (iN r.tv) x)):=rfl;rw [b,Ec a xs,TQ,lh];show nv to+ (r.tv:Rat) * nv x+ _=_;grind
def iY:List R->List Fr->Bool
 | r::a,t::ts=> !(decide (r.kd=1) && decide (t.1 < 0)) && iY a ts
 | _,_=>true
def jf(n:Nat)(rows:List R)(gl:List Int)(v:Fr)(point times:List Fr):Bool:=
 (rows.all λr=>eL r (aU r.of (point.map ba))) && decide (aU gl (point.map ba)=ba v) && iY rows times &&
  ((List.range n).all λk=>decide (iS rows (times.map ba) k= ((gl.getD k 0:Int):Rat))) && decide (lh rows (times.map ba)=ba v)
def mO(n:Int)(rows:List R)(gl:List Int)(v:Fr)(point times:List Fr):Int×Int:=
 if(eJ n rows gl).1≠0 then eJ n rows gl else if(point.length:Int)≠n\/times.length≠rows.length then(9,0) else
 if(decide (bH v) && (point.all λx=>decide (bH x)) && (times.all λx=>decide (bH x)))=true then(0,0) else(5,0)
section
variable {n:Nat} (rows:List R) (er eg ep et:Bool) (gl:List Int) (v:Fr) (point times:List Fr)
theorem Sp(hv:bH v)(Q:n<=12)(N:gl.length<=n)(B:∀c∈gl, -1000000<=c/\c<=1000000)(a:List Nm)(to:Nm)(P:a.length=n)(A:∀y∈a,QN 6100 y)(D:QN 6100 to):
  ∀(xs:List Nm) (k:Nat),a.drop k=xs->(∀y,Or td [ae eg gl,r0,AV.ref (Id.c 1) 0,AV.ref (Id.c 2) 0,AV.t (T.ae 4 false (aQ a)),I (n:Int),I (k:Int)] [aa.box [I v.1,I v.2],aa.box [I 0,I 0],gN to]=y->
   y=some [tb (((List.range' k (n - k)).all λj=>decide (nv (ao a j)= ((gl.getD j 0:Int):Rat))) && decide (nv to=ba v)),ti 0,ti 0]):=by
 intro xs;induction xs with
 | nil=>
  intro k h y hy;have M:=bF h;have h1:¬(k:Int) < (n:Int):=by omega
  have F:=yt hv.b;have g:=nU (x:=to) (y:=fN v) (m:=6100) (k:=30) D (rD hv.b) (by omega);have H:(cq (nv to) (nv (fN v))==0)=decide (nv to=ba v):=by rw [ou];exact decide_eq_decide.2 (jM _ _)
  have hr:n - k=0:=by omega
  rw [<-hy,hr];refine an ?_;rw [tN];simp only [ak,↓reduceIte,Int.reduceBEq,Int.reduceEq,GD,h1,F,g,H,List.range'_zero,Xk]
 | cons x xs K=>
  intro k h y hy;obtain⟨r,O,J⟩:=bz h;have h1:(k:Int) < (n:Int):=by omega
  have s: 0<=(k:Int):=by omega
  have q:(k:Int) < (a.length:Int):=by omega
  have E:ao a k=x:=by have:=gg (l:=a) (i:=k) (by omega);rw [r] at this;exact(TE this).symm
  have u:=fy 0 (by omega);have hr:List.range' k (n - k)=k::List.range' (k+1) (n - (k+1)):=by rw [show n - k= (n - (k+1))+1 by omega,VQ]
  have w:=K (k+1) J _ rfl;have G:=A x (SX r);rw [<-hy,hr,Uu,E];by_cases C:k < gl.length
  .have f:(k:Int) < (gl.length:Int):=by omega
   have p:gl[k]? =some (gl.getD k 0):=by rw [SV,SZ C];rfl
   have L:=B _ (SX p);have z:=fy (gl.getD k 0) (by omega);have g:=nU (x:=x) (y:=iN (gl.getD k 0)) (m:=6100) (k:=20) G (dS (by omega)) (by omega);by_cases o:nv x= ((gl.getD k 0:Int):Rat)
   .have d:cq (nv x) (nv (iN (gl.getD k 0)))=0:=(jM _ _).2 o;rw [decide_eq_true o,Uo];refine an ?_;rw [tN];simp only [ak,↓reduceIte,Int.reduceBEq,Int.reduceEq,GD,h1,s,q,f,and_self,bA,cg r,u,bN,fW p,z,g,d,next k (by omega)];exact w
   .have d:¬cq (nv x) (nv (iN (gl.getD k 0)))=0:=λh=>o ((jM _ _).1 h);rw [decide_eq_false o,UF,UF];refine an ?_;rw [tN];simp only [ak,↓reduceIte,Int.reduceBEq,Int.reduceEq,GD,h1,s,q,f,and_self,bA,cg r,u,bN,fW p,z,g,d]
  .have f:¬(k:Int) < (gl.length:Int):=by omega
   have p:gl.getD k 0=0:=by rw [SV,TU (by omega)];rfl
   have g:=nU (x:=x) (y:=iN 0) (m:=6100) (k:=20) G (dS (by decide)) (by omega);rw [p];by_cases o:nv x= ((0:Int):Rat)
   .have d:cq (nv x) (nv (iN 0))=0:=(jM _ _).2 o;rw [decide_eq_true o,Uo];refine an ?_;rw [tN];simp only [ak,↓reduceIte,Int.reduceBEq,Int.reduceEq,GD,h1,s,q,f,and_self,bA,cg r,u,bN,g,d,next k (by omega)];exact w
   .have d:¬cq (nv x) (nv (iN 0))=0:=λh=>o ((jM _ _).1 h);rw [decide_eq_false o,UF,UF];refine an ?_;rw [tN];simp only [ak,↓reduceIte,Int.reduceBEq,Int.reduceEq,GD,h1,s,q,f,and_self,bA,cg r,u,bN,g,d]
theorem Sq(hv:bH v)(M:n<=12)(hm:rows.length<=40)(ok:∀r∈rows,gz n r)(L:∀r∈rows,r.kd≠2)(K:gl.length<=n)(J:∀c∈gl, -1000000<=c/\c<=1000000)(U:times.length=rows.length)(s:∀x∈times,bH x):
  ∀(d:List R) (ts:List Fr) (i:Nat),rows.drop i=d->times.drop i=ts->
  Or wF [LR er rows,I (n:Int),ae eg gl,LN et times,r0,AV.ref (Id.c 1) 0,LR er rows,I (rows.length:Int),I (i:Int)] [aa.box [I v.1,I v.2],aa.box [I 0,I 0]]=
   some [tb (iY d ts && ((List.range n).all λk=>decide (iS rows (times.map ba) k= ((gl.getD k 0:Int):Rat))) && decide (lh rows (times.map ba)=ba v)),ti 0,ti 0]:=by
 intro d;induction d with
 | nil=>
  intro ts i h E;have h1:¬(i:Int) < (rows.length:Int):=by have:=bF h;omega
  have o:iY [] ts=true:=by cases ts <;> rfl
  have O:=C3 et times (by omega) (λx F=>(s x F).b);have g:(times.map fN).map nv=times.map ba:=by rw [VD];rfl
  obtain⟨q,q1,P,G⟩:=RO er (decide (times= [])) rows (times.map fN) (n:=n) (mt:=30) M hm (by simp;omega) (λx F=>by
   obtain⟨y,hy,rfl⟩:=Tw.1 F;exact rD (s y hy).b) ok L (by omega)
  have u:=λk (a:k < n)=>Eb rows (times.map fN) (List.replicate n none) none k (by simpa using a);have w:=Ec rows (times.map fN) (List.replicate n none) none;rw [g] at w;generalize fF rows (times.map fN) (List.replicate n none,none)=m at q q1 P G u w;have:=Sp (n:=n) eg gl v hv M K J m.1 m.2 G q1 P m.1 0 rfl _ rfl;have D:((List.range' 0 (n - 0)).all λj=>decide (nv (ao m.1 j)= ((gl.getD j 0:Int):Rat)))= ((List.range n).all λk=>decide (iS rows (times.map ba) k= ((gl.getD k 0:Int):Rat))):=by
   rw [TZ,<-Wj,Bool.eq_iff_iff,Tk,Tk];refine forall_congr' λk=> ?_;constructor
   .intro A a;have:=u k (UO.1 a);have hz:nv (ao (List.replicate n (none:Nm)) k)=0:=by
     unfold ao;rw [SV,UJ];split <;> rfl
    rw [hz,g,WQ] at this;rw [<-this];exact A a
   .intro A a;have:=u k (UO.1 a);have hz:nv (ao (List.replicate n (none:Nm)) k)=0:=by
     unfold ao;rw [SV,UJ];split <;> rfl
    rw [hz,g,WQ] at this;rw [this];exact A a
  have N:nv m.2=lh rows (times.map ba):=by rw [w,rY,WQ]
  rw [D,N] at this;rw [o,Uo];simp only [S7,S8] at q;refine an ?_;rw [xE];simp only [ak,↓reduceIte,Int.reduceBEq,Int.reduceEq,GD,h1,O,q,bA,G];exact this
 | cons r d S=>
  intro ts i h E;obtain⟨z,V,Q⟩:=bz h;cases ts with
  | nil=>have:=bF E;omega
  | cons t ts=>
   obtain⟨H,W,T⟩:=bz E;have h1:(i:Int) < (rows.length:Int):=by omega
   have B: 0<=(i:Int):=by omega
   have C:(i:Int) < (times.length:Int):=by omega
   have p:=S ts (i+1) Q T;have o:iY (r::d) (t::ts)= (!(decide (r.kd=1) && decide (t.1 < 0)) && iY d ts):=rfl;rw [o];by_cases a:r.kd=1
   .have l:(r.kd==1)=true:=by simpa using a
    by_cases f:t.1 < 0
    .refine an ?_;rw [xE];simp only [ak,↓reduceIte,Int.reduceBEq,Int.reduceEq,GD,h1,B,C,and_self,bB,eC z,l,fm,oA H,f,decide_true];simp [a,f]
    .have e:(!(decide (r.kd=1) && decide (t.1 < 0)) && iY d ts)=iY d ts:=by simp [a,f]
     rw [e];refine an ?_;rw [xE];simp only [ak,↓reduceIte,Int.reduceBEq,Int.reduceEq,GD,h1,B,C,and_self,bB,eC z,l,fm,oA H,f,decide_false,next i (by omega)];split
     .exact p
     .exact p
   .have l:(r.kd==1)=false:=by simpa using a
    have e:(!(decide (r.kd=1) && decide (t.1 < 0)) && iY d ts)=iY d ts:=by simp [a]
    rw [e];refine an ?_;rw [xE];simp only [ak,↓reduceIte,Int.reduceBEq,Int.reduceEq,GD,h1,B,C,and_self,bB,eC z,l,a,fm,oA H,next i (by omega)];exact p
end
open Go Go.Aev Go.Aev.Gen Go.Aev.Wd Go.Aev.Tb
abbrev Av(v:Fr):AV:=AV.agg [I v.1,I v.2]
set_option maxRecDepth 10000 in
theorem u8(rows:List R)(er eg ep et:Bool)(n:Int)(gl:List Int)(v:Fr)(point times:List Fr)(hr:∀r∈rows,r.e=true->r.of= []):
  Or (.call 9) [LR er rows,I n,ae eg gl,Av v,LN ep point,LN et times] []=
   some (if(mO n rows gl v point times).1=0 then [tb (jf n.toNat rows gl v point times),ti 0,ti 0] else [tb false,ti (mO n rows gl v point times).1,ti (mO n rows gl v point times).2]):=by
 have a:=C1 rows er eg n gl hr;by_cases h1:(eJ n rows gl).1=0
 .obtain⟨_,X,Y,J,F,U,Z,K⟩:=wZ hr h1;obtain⟨n,rfl⟩:∃m:Nat,n= (m:Int):=⟨n.toNat,by omega⟩;simp only [TB] at F;by_cases L:(point.length:Int)≠(n:Int)\/times.length≠rows.length
  .have s:mO (n:Int) rows gl v point times= (9,0):=by unfold mO;rw [if_neg (by omega),if_pos L]
   have hb:(if(point.length:Int)= (n:Int) then !((times.length:Int)== (rows.length:Int)) else true)=true:=by
    by_cases M:(point.length:Int)= (n:Int)
    .rw [if_pos M];have:¬(times.length:Int)= (rows.length:Int):=by omega
     simpa using this
    .rw [if_neg M]
   rw [s];refine an ?_;rw [oC];simp only [ak,↓reduceIte,Int.reduceBEq,Int.reduceEq,GD,a,h1,fm,bB,hb]
   try rfl
  .have V:point.length=n:=by omega
   have P:times.length=rows.length:=by omega
   have hb:(if(point.length:Int)= (n:Int) then !((times.length:Int)== (rows.length:Int)) else true)=false:=by
    rw [if_pos (by omega)];have:(times.length:Int)= (rows.length:Int):=by omega
    simpa using this
   have c:Or (.call 23) [AV.t (T.ae 2 false [[ti v.1,ti v.2]])] []=some [tb (!([v].all λx=>decide (bH x)))]:=y6 false [v] (by simp);have g:=y6 ep point (by omega);have j:=y6 et times (by omega);have w:([v].all λx=>decide (bH x))=decide (bH v):=by simp
   rw [w] at c;have s:mO (n:Int) rows gl v point times=if(decide (bH v) && (point.all λx=>decide (bH x)) && (times.all λx=>decide (bH x)))=true then(0,0) else(5,0):=by unfold mO;rw [if_neg (by omega),if_neg L]
   rw [s];cases p:decide (bH v)
   .rw [p] at c;refine an ?_;rw [oC];simp only [bD,ak,↓reduceIte,Int.reduceBEq,Int.reduceEq,GD,a,h1,fm,bB,hb,c,Tj,Th,UF]
    try rfl
   .rw [p] at c;cases l:point.all λx=>decide (bH x)
    .rw [l] at g;refine an ?_;rw [oC];simp only [bD,ak,↓reduceIte,Int.reduceBEq,Int.reduceEq,GD,a,h1,fm,bB,hb,c,g,Tj,Th,UF]
     try rfl
    .rw [l] at g;cases o:times.all λx=>decide (bH x)
     .rw [o] at j;refine an ?_;rw [oC];simp only [bD,ak,↓reduceIte,Int.reduceBEq,Int.reduceEq,GD,a,h1,fm,bB,hb,c,g,j,Tj,Th,UF]
      try rfl
     .rw [o] at j;have hv:bH v:=of_decide_eq_true p;have q:∀x∈point,bH x:=λx f=>of_decide_eq_true (Tk.1 l x f);have Q:∀x∈times,bH x:=λx f=>of_decide_eq_true (Tk.1 o x f);have d:=JY er rows ep point (by omega) (by rw [V];exact F) q J;have C:=C3 ep point (by omega) (λx f=>(q x f).b);obtain⟨y,S,H,W⟩:=C2 eg (decide (point= [])) gl (point.map fN) K (by simp;omega) (by omega) (m:=30) (λx f=>by
       obtain⟨z,hz,rfl⟩:=Tw.1 f;exact rD (q z hz).b) (by omega)
      have G:(point.map fN).map nv=point.map ba:=by rw [VD];rfl
      rw [G] at H;have E:=yt hv.b;have D:=nU (x:=y) (y:=fN v) (m:=6000) (k:=30) W (rD hv.b) (by omega);have A:=Sq (n:=n) rows er eg et gl v times hv (by omega) J F U (by omega) K P Q rows times 0 rfl rfl;have B:jf n rows gl v point times= ((rows.all λr=>eL r (aU r.of (point.map ba))) && (decide (aU gl (point.map ba)=ba v) && (iY rows times && ((List.range n).all λk=>decide (iS rows (times.map ba) k= ((gl.getD k 0:Int):Rat))) && decide (lh rows (times.map ba)=ba v)))):=by unfold jf;simp only [Bool.and_assoc]
      simp only [Bool.and_self,if_true];rw [TB,B];cases N:rows.all λr=>eL r (aU r.of (point.map ba))
      .rw [N] at d;refine an ?_;rw [oC];simp only [bD,ak,↓reduceIte,Int.reduceBEq,Int.reduceEq,GD,a,h1,fm,bB,hb,c,g,j,d,Tj,Th,UF]
      .rw [N] at d;by_cases u:aU gl (point.map ba)=ba v
       .have i:cq (nv y) (nv (fN v))=0:=(jM _ _).2 (by rw [H];exact u);rw [decide_eq_true u,Uo,Uo];refine an ?_;rw [oC];simp only [ak,↓reduceIte,Int.reduceBEq,Int.reduceEq,GD,a,h1,fm,bB,hb,c,g,j,d,C,S,E,D,i,Tj,Th];exact A
       .have i:¬cq (nv y) (nv (fN v))=0:=λh=>u (by rw [<-H];exact(jM _ _).1 h);have O:(!(cq (nv y) (nv (fN v))==0))=true:=by simpa using i
        rw [decide_eq_false u,Uo,UF];refine an ?_;rw [oC];simp only [ak,↓reduceIte,Int.reduceBEq,Int.reduceEq,GD,a,h1,fm,bB,hb,c,g,j,d,C,S,E,D,i,O,Tj,Th]
 .have s:mO n rows gl v point times=eJ n rows gl:=by unfold mO;rw [if_pos h1]
  rw [s,if_neg h1];refine an ?_;rw [oC];simp only [ak,↓reduceIte,Int.reduceBEq,Int.reduceEq,GD,a,h1]
def iG(r:R):R:={r with tv:=0}
def mP(n:Int)(rows:List R)(gl:List Int)(point:List Fr):Int×Int:=
 if(eJ n rows gl).1≠0 then eJ n rows gl else if(point.length:Int)≠n then(9,0) else if(point.all λx=>decide (bH x))=true then(0,0) else(5,0)
def lW(rows:List R)(gl:List Int)(point:List Fr):Bool:=((rows.map iG).all λr=>eL r (aU r.of (point.map ba))) && decide (0 < aU gl (point.map ba))
theorem Fu(a b:List R):cV a++cV b=cV (a++b):=by simp [cV]
theorem Su(rows:List R)(er eg ep:Bool)(n:Nat)(gl:List Int)(point:List Fr)(P:n<=12)(hm:rows.length<=40)(ok:∀r∈rows,gz n r)(M:gl.length<=n)(u:∀c∈gl, -1000000<=c/\c<=1000000)(G:point.length=n)(g:∀x∈point,bH x):
  ∀(d a:List R) (i:Nat),rows.drop i=d->a.length=i->a++d=rows->
  Or wH [ae eg gl,LN ep point,r0,AV.own (Id.c 1),LR er rows,I (rows.length:Int),I (i:Int)] [aa.box [I 0,I 0],aa.sl false 3 (decide (a= [])) (cV (a.map iG))]=some [tb (lW rows gl point),ti 0,ti 0]:=by
 intro d;induction d with
 | nil=>
  intro a i h F j;have h1:¬(i:Int) < (rows.length:Int):=by have:=bF h;omega
  rw [T7] at j;subst j;have f:=JY (decide (a= [])) (a.map iG) ep point (by omega) (λr hr=>by
   obtain⟨q,H,rfl⟩:=Tw.1 hr;have o:=ok q H;rw [G];exact⟨o.e,o.kd,o.len,o.of,by show -1000000<=(0:Int)/\(0:Int)<=1000000;omega⟩) g (by simpa using hm)
  have w:=C3 ep point (by omega) (λx s=>(g x s).b);obtain⟨y,L,A,Q⟩:=C2 eg (decide (point= [])) gl (point.map fN) u (by simp;omega) (by omega) (m:=30) (λx s=>by
   obtain⟨z,hz,rfl⟩:=Tw.1 s;exact rD (g z hz).b) (by omega)
  have l:(point.map fN).map nv=point.map ba:=by rw [VD];rfl
  rw [l] at A;have ks:=lf y;have p:decide ((nv y).num.sign > 0)=decide (0 < aU gl (point.map ba)):=by
   rw [A];refine decide_eq_decide.2 ?_;have h1:=rW (-(aU gl (point.map ba)));rcases pa (aU gl (point.map ba)) with e | e | e
   .rw [e];refine⟨λ_=> ?_,λ_=>by decide⟩;have N:¬aU gl (point.map ba) < 0:=λh=>by have:=(rW _).2 h;rw [e] at this;exact absurd this (by decide)
    have k:aU gl (point.map ba)≠0:=λh=>by have:=(fO _).2 h;rw [e] at this;exact absurd this (by decide)
    grind
   .rw [e];refine⟨λh=>absurd h (by decide),λh=> ?_⟩;have:=(rW (aU gl (point.map ba))).1 (by rw [e];decide);exact absurd h (by grind)
   .rw [e];refine⟨λh=>absurd h (by decide),λh=> ?_⟩;have:=(fO (aU gl (point.map ba))).1 e;rw [this] at h;exact absurd h (by grind)
  unfold lW;rw [<-p];cases t:(a.map iG).all λr=>eL r (aU r.of (point.map ba))
  .rw [t] at f;refine an ?_;rw [A2];simp only [bD,ak,↓reduceIte,Int.reduceBEq,Int.reduceEq,GD,h1,f,UF]
  .rw [t] at f;refine an ?_;rw [A2];simp only [ak,↓reduceIte,Int.reduceBEq,Int.reduceEq,GD,h1,f,w,L,ks,Uo]
 | cons r d J=>
  intro a i h F j;obtain⟨B,O,C⟩:=bz h;have h1:(i:Int) < (rows.length:Int):=by omega
  have D: 0<=(i:Int):=by omega
  have K:small 40 ((a.map iG).length+ [[T.ae 1 r.e (enc r.of),ti r.kd,ti 0]].length)=some ():=jE (by simp;omega);have E:cV (a.map iG)++ [[T.ae 1 r.e (enc r.of),ti r.kd,ti 0]]=cV ((a++ [r]).map iG):=by rw [US,<-Fu];rfl
  have:=J (a++ [r]) (i+1) C (by simp;omega) (by simpa using j);have k:decide (a++ [r]= [])=false:=by simp
  rw [k] at this;refine an ?_;rw [A2];simp only [ak,↓reduceIte,Int.reduceBEq,Int.reduceEq,GD,h1,D,and_self,bB,eC B,K,E,next i (by omega)];exact this
theorem u9(rows:List R)(er eg ep:Bool)(n:Int)(gl:List Int)(point:List Fr)(hr:∀r∈rows,r.e=true->r.of= []):
  Or (.call 10) [LR er rows,I n,ae eg gl,LN ep point] []=
   some (if(mP n rows gl point).1=0 then [tb (lW rows gl point),ti 0,ti 0] else [tb false,ti (mP n rows gl point).1,ti (mP n rows gl point).2]):=by
 have b:=C1 rows er eg n gl hr;by_cases h1:(eJ n rows gl).1=0
 .obtain⟨_,o,p,j,h,q,s,k⟩:=wZ hr h1;obtain⟨n,rfl⟩:∃m:Nat,n= (m:Int):=⟨n.toNat,by omega⟩;simp only [TB] at h;by_cases g:(point.length:Int)≠(n:Int)
  .have a:¬(point.length:Int)= (n:Int):=g;have d:mP (n:Int) rows gl point= (9,0):=by unfold mP;rw [if_neg (by omega),if_pos g]
   rw [d];refine an ?_;rw [xF];simp only [ak,↓reduceIte,Int.reduceBEq,Int.reduceEq,GD,b,h1,fm,a]
   try rfl
  .have a:(point.length:Int)= (n:Int):=by omega
   have f:=y6 ep point (by omega);have d:mP (n:Int) rows gl point=if(point.all λx=>decide (bH x))=true then(0,0) else(5,0):=by unfold mP;rw [if_neg (by omega),if_neg g]
   rw [d];cases c:point.all λx=>decide (bH x)
   .rw [c] at f;refine an ?_;rw [xF];simp only [ak,↓reduceIte,Int.reduceBEq,Int.reduceEq,GD,b,h1,fm,a,f,Tj]
    try rfl
   .rw [c] at f;have i:∀x∈point,bH x:=λx l=>of_decide_eq_true (Tk.1 c x l);have:=Su rows er eg ep n gl point (by omega) j h (by omega) k (by omega) i rows [] 0 rfl rfl rfl;simp only [if_true];refine an ?_;rw [xF];simp only [ak,↓reduceIte,Int.reduceBEq,Int.reduceEq,GD,b,h1,fm,a,f,Th,bB];exact this
 .have d:mP n rows gl point=eJ n rows gl:=by unfold mP;rw [if_pos h1]
  rw [d,if_neg h1];refine an ?_;rw [xF];simp only [ak,↓reduceIte,Int.reduceBEq,Int.reduceEq,GD,b,h1]
def cL(x:Nm):Fr:=if cw (nv x)=true then((nv x).num,((nv x).den:Int)) else(0,0)
theorem Ic{m:Nat}{x:Nm}(b:QN m x)(h:m<=6300):Or (.call 21) [EN x] []=some [ti (cL x).1,ti (cL x).2,tb (cw (nv x))]:=by
 have:=JH b h;unfold cL;cases a:cw (nv x)
 .rw [a] at this;exact this
 .rw [a] at this;exact this
theorem RX(e:Bool)(l:List Nm)(A:l.length<=1000){m:Nat}(s:∀x∈l,QN m x)(hm:m<=6300):∀(d a:List Nm) (i:Nat) (b:Bool),l.drop i=d->a.length=i->a++d=l->b=a.all (λx=>cw (nv x))->
  Or wz [AV.own (Id.c 0),B b,AV.t (T.ae 4 e (aQ l)),I (l.length:Int),I (i:Int)] [aa.sl false 2 (decide (a= [])) (gF (a.map cL))]=some [T.ae 2 (decide (l= [])) (gF (l.map cL)),tb (l.all λx=>cw (nv x))]:=by
 intro d;induction d with
 | nil=>
  intro a i b h r f hb;have h1:¬(i:Int) < (l.length:Int):=by have:=bF h;omega
  rw [T7] at f;subst f;rw [<-hb];refine an ?_;rw [FR];simp only [ak,↓reduceIte,Int.reduceBEq,Int.reduceEq,GD,h1]
 | cons x d u=>
  intro a i b h r f hb;obtain⟨g,z,o⟩:=bz h;have h1:(i:Int) < (l.length:Int):=by omega
  have p: 0<=(i:Int):=by omega
  have w:=Ic (s x (SX g)) hm;have y:small 16 ((gF (a.map cL)).length+ [[ti (cL x).1,ti (cL x).2]].length)=some ():=jE (by rw [fm];simp;omega);have q:gF (a.map cL)++ [[ti (cL x).1,ti (cL x).2]]=gF ((a++ [x]).map cL):=by simp [gF]
  have:=u (a++ [x]) (i+1) (if b=true then cw (nv x) else false) o (by simp;omega) (by simpa using f) (by rw [hb,List.all_append];cases a.all (λx=>cw (nv x)) <;> simp);have k:decide (a++ [x]= [])=false:=by simp
  rw [k] at this;have j:(bif b then cw (nv x) else false)=if b=true then cw (nv x) else false:=by cases b <;> rfl
  refine an ?_;rw [FR];simp only [ak,↓reduceIte,Int.reduceBEq,Int.reduceEq,GD,h1,p,and_self,bA,cg g,w,y,q,j,next i (by omega)];exact this
theorem qy(e:Bool)(l:List Nm)(a:l.length<=1000){m:Nat}(b:∀x∈l,QN m x)(hm:m<=6300):
  Or (.call 17) [AV.t (T.ae 4 e (aQ l))] []=some [T.ae 2 (decide (l= [])) (gF (l.map cL)),tb (l.all λx=>cw (nv x))]:=by
 have:=RX e l a b hm l [] 0 true rfl rfl rfl rfl;refine an ?_;rw [MF,bA];exact this
open Go Go.Aev Go.Aev.Gen Go.Aev.Wd Go.Aev.Tb
theorem As(a b:Int):Or (.call 12) [I a,I b] []=some [ti a,ti b]:=s8 a b
theorem Eu(a:Int):Or (.call 13) [I a] []=some [tb (decide (a<=1000000/\a>= -1000000))]:=uL a
theorem Lc(el:Bool)(gl:List Int)(t:gl.length<=1000):∀(b:List Int) (i:Nat) (c a:Int),gl.drop i=b->
  Or px [ae el gl,r0,AV.ref (Id.c 1) 0,I (i:Int)] [aa.box [I 0,I 0],aa.box [I c,I a]]=fl (if c=0 then(if(cQ b i).1=0 then(c,a) else cQ b i) else(c,a)):=by
 intro b;induction b with
 | nil=>
  intro i c a h;have h1:¬(i:Int) < (gl.length:Int):=by have:=bF h;omega
  have f:(if c=0 then(if(cQ [] i).1=0 then(c,a) else cQ [] i) else(c,a))= (c,a):=by
   split
   .rfl
   .rfl
  rw [f];refine an ?_;rw [tJ];simp only [ak,↓reduceIte,Int.reduceBEq,Int.reduceEq,GD,h1,bN]
 | cons x b q=>
  intro i c a h;obtain⟨k,s,l⟩:=bz h;have h1:(i:Int) < (gl.length:Int):=by omega
  have m: 0<=(i:Int):=by omega
  by_cases j:c=0
  .subst j;rw [if_pos rfl];by_cases p: -1000000<=x/\x<=1000000
   .have d:=Eu x;rw [decide_eq_true (by omega)] at d;have f:cQ (x::b) i=cQ b (i+1):=by rw [cQ,if_pos p]
    have:=q (i+1) 0 a l;rw [if_pos rfl] at this;rw [f];refine an ?_;rw [tJ];simp only [ak,↓reduceIte,Int.reduceBEq,Int.reduceEq,GD,h1,m,and_self,bN,fW k,d,next i (by omega)];exact this
   .have d:=Eu x;rw [decide_eq_false (by omega)] at d;have f:cQ (x::b) i= (5,(i:Int)):=by rw [cQ,if_neg p]
    have g:¬(5:Int)=0:=by decide
    have:=q (i+1) 5 (i:Int) l;rw [if_neg g] at this;have r:=As 5 (i:Int);rw [f,if_neg g];refine an ?_;rw [tJ];simp only [ak,↓reduceIte,Int.reduceBEq,Int.reduceEq,GD,h1,m,and_self,bN,fW k,d,r,next i (by omega)];exact this
  .have o:(c==0)=false:=by simpa using j
   rw [if_neg j];refine an ?_;rw [tJ];simp only [ak,↓reduceIte,Int.reduceBEq,Int.reduceEq,GD,h1,o,bN]
theorem Ar(el:Bool)(gl:List Int)(i:Nat){c:Int}(a:Int)(d:c≠0):Or px [ae el gl,r0,AV.ref (Id.c 1) 0,I (i:Int)] [aa.box [I 0,I 0],aa.box [I c,I a]]=fl (c,a):=by
 have b:(c==0)=false:=by simpa using d
 refine an ?_;rw [tJ];by_cases h1:(i:Int) < (gl.length:Int)
 .simp only [ak,↓reduceIte,Int.reduceBEq,Int.reduceEq,GD,h1,b,bN]
 .simp only [ak,↓reduceIte,Int.reduceBEq,Int.reduceEq,GD,h1,b,bN]
theorem Ld(er el:Bool)(rows:List R)(n:Int)(gl:List Int)(y:n<=12)(hr:rows.length<=1000):∀(b:List R) (i:Nat) (c a:Int),rows.drop i=b->
  Or py [LR er rows,I n,ae el gl,r0,AV.ref (Id.c 1) 0,I (i:Int)] [aa.box [I 0,I 0],aa.box [I c,I a]]=
   fl (if c=0 then(if(dX b i).1=0 then(if(gl.length:Int) > n then(9,0) else if(cQ gl 0).1=0 then(c,a) else cQ gl 0) else dX b i) else(c,a)):=by
 have tail:∀(i:Nat) (c a:Int),((bif decide ((i:Int) < (rows.length:Int)) then c==0 else false)=false)->aE aq ann Or py [LR er rows,I n,ae el gl,r0,AV.ref (Id.c 1) 0,I (i:Int)] [aa.box [I 0,I 0],aa.box [I c,I a]]=
   fl (if c=0 then(if(gl.length:Int) > n then(9,0) else if(cQ gl 0).1=0 then(c,a) else cQ gl 0) else(c,a)):=by
  intro i c a hb;rw [xC,bB,hb];by_cases d:c=0
  .subst d;rw [if_pos rfl];by_cases l:(gl.length:Int) > n
   .have k:=As 9 0;have u:¬(9:Int)=0:=by decide
    have:=Ar el gl 0 0 u;rw [if_pos l];simp only [ak,↓reduceIte,Int.reduceBEq,Int.reduceEq,GD,bN,l,decide_true,k];exact this
   .have:=Lc el gl (by omega) gl 0 0 a rfl;rw [if_pos rfl] at this;rw [if_neg l];simp only [ak,↓reduceIte,Int.reduceBEq,Int.reduceEq,GD,bN,l,decide_false];exact this
  .have g:(c==0)=false:=by simpa using d
   have:=Ar el gl 0 a d;rw [if_neg d];simp only [ak,↓reduceIte,Int.reduceBEq,Int.reduceEq,GD,bN,g];exact this
 intro b;induction b with
 | nil=>
  intro i c a h;have h1:¬(i:Int) < (rows.length:Int):=by have:=bF h;omega
  have o:=tail i c a (by rw [decide_eq_false h1];rfl);refine an ?_;rw [o];rfl
 | cons r b w=>
  intro i c a h;obtain⟨q,x,s⟩:=bz h;have h1:(i:Int) < (rows.length:Int):=by omega
  have t: 0<=(i:Int):=by omega
  by_cases d:c=0
  .subst d;rw [if_pos rfl];by_cases f:r.kd=2
   .have p:dX (r::b) i= (4,(i:Int)):=by rw [dX,if_pos f]
    have m:¬(4:Int)=0:=by decide
    have k:=As 4 (i:Int);have:=w (i+1) 4 (i:Int) s;rw [if_neg m] at this;have j:(r.kd==2)=true:=by simpa using f
    rw [p,if_neg m];refine an ?_;rw [xC];simp only [ak,↓reduceIte,Int.reduceBEq,Int.reduceEq,GD,h1,t,and_self,bB,eC q,j,f,k,next i (by omega)];exact this
   .have p:dX (r::b) i=dX b (i+1):=by rw [dX,if_neg f]
    have:=w (i+1) 0 a s;rw [if_pos rfl] at this;have j:(r.kd==2)=false:=by simpa using f
    rw [p];refine an ?_;rw [xC];simp only [ak,↓reduceIte,Int.reduceBEq,Int.reduceEq,GD,h1,t,and_self,bB,eC q,j,f,next i (by omega)];exact this
  .have g:(c==0)=false:=by simpa using d
   have o:=tail i c a (by rw [g];cases decide ((i:Int) < (rows.length:Int)) <;> rfl);refine an ?_;rw [o,if_neg d,if_neg d]
theorem Lf(er el:Bool)(rows:List R)(n:Int)(gl:List Int)(i:Nat){c:Int}(a:Int)(d:c≠0):
  Or py [LR er rows,I n,ae el gl,r0,AV.ref (Id.c 1) 0,I (i:Int)] [aa.box [I 0,I 0],aa.box [I c,I a]]=fl (c,a):=by
 have b:(c==0)=false:=by simpa using d
 have k:=Ar el gl 0 a d;have hb:(bif decide ((i:Int) < (rows.length:Int)) then c==0 else false)=false:=by rw [b];cases decide ((i:Int) < (rows.length:Int)) <;> rfl
 refine an ?_;rw [xC,bB,hb];simp only [ak,↓reduceIte,Int.reduceBEq,Int.reduceEq,GD,b];exact k
theorem Lb(rows:List R)(er el:Bool)(n:Int)(gl:List Int):Or (.call 5) [LR er rows,I n,ae el gl] []=fl (eJ n rows gl):=by
 have f:=QK rows er n;unfold eJ;by_cases h1:(fG n rows).1=0
 .have d:=K1 h1;have hb:n<=12/\rows.length<=40:=by
   unfold fG at h1;split at h1
   .simp at h1
   .unfold mZ at h1;split at h1
    .simp at h1
    .omega
  have:=Ld er el rows n gl hb.1 (by omega) rows 0 (fG n rows).1 (fG n rows).2 rfl;rw [if_neg (by omega)];rw [if_pos h1] at this;refine an ?_;rw [FK];simp only [ak,↓reduceIte,Int.reduceBEq,Int.reduceEq,GD,f];by_cases a:(dX rows 0).1=0
  .rw [if_pos a] at this;rw [if_neg (by omega)];by_cases c:(gl.length:Int) > n
   .rw [if_pos c] at this⊢;exact this
   .rw [if_neg c] at this⊢;by_cases b:(cQ gl 0).1=0
    .rw [if_pos b,d] at this;rw [xT _ _ b];rw [d];exact this
    .rw [if_neg b] at this;exact this
  .rw [if_neg a] at this;rw [if_pos a];exact this
 .rw [if_pos h1];have:=Lf er el rows n gl 0 (fG n rows).2 h1;refine an ?_;rw [FK];simp only [ak,↓reduceIte,Int.reduceBEq,Int.reduceEq,GD,f];exact this
open Go Go.Aev Go.Aev.Gen Go.Aev.Wd Go.Aev.Tb
theorem q1:Rat.divInt 0 1=0:=rfl
section
variable (rows:List R) (er eg ep et:Bool) (n:Nat) (gl:List Int) (v:Fr) (point times:List Fr)
theorem yu(q:Rat):(q.num.sign > 0)↔0 < q:=by
 have h1:=rW q;have a:=fO q;rcases pa q with e | e | e
 .rw [e] at h1 a⊢;refine⟨λ_=> ?_,λ_=>by decide⟩;have c:¬q < 0:=λh=>absurd (h1.2 h) (by decide);have b:q≠0:=λh=>absurd (a.2 h) (by decide);grind
 .rw [e] at h1⊢;refine⟨λh=>absurd h (by decide),λh=> ?_⟩;have:=h1.1 (by decide);exact absurd h (by grind)
 .rw [e] at a⊢;refine⟨λh=>absurd h (by decide),λh=> ?_⟩;have:=a.1 rfl;rw [this] at h;exact absurd h (by grind)
end
end Go.Aev.Wd.Lg
