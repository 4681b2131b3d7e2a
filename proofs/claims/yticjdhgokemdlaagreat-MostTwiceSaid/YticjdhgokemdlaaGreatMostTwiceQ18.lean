import Derived.Test.YticjdhgokemdlaaGreatMostTwiceQ6
import Derived.Test.YticjdhgokemdlaaGreatMostTwiceQ17
set_option linter.all false
namespace Go.Aev.Wd.Lg
open Go Go.Aev Go.Aev.Gen
noncomputable abbrev xX:Key:=aT ao 9 true 10 [(2,none),(3,none),(9,none),(11,some 3),(32,none),(33,none),(34,none)] (0,0)
noncomputable abbrev Me:Key:=aT ao 3 true 9 [(0,none),(1,none),(2,none),(4,none),(5,none),(9,none),(14,none),(15,none),(16,none),(17,none),(18,none),(19,some 2),(20,none)] (0,0)
theorem y6(O:au)(er eg ep:Bool)(r g p:JL)(n:Int):az ao ann O (Key.call 9) [Jl 3 er r,I n,Jl 1 eg g,Jl 2 ep p] []=
 (G0 (O (.call 24) [Jl 3 er r,I n,Jl 1 eg g] []) λa c=>bif !a==0 then some [Jb false,Ji a,Ji c] else bif !(p.length:Int)==n then some [Jb false,Ji 9,Ji 0] else G3 (O (.call 25) [Jl 2 ep p] []) λb=>bif b then some [Jb false,Ji 5,Ji 0] else O xX [Jl 1 eg g,Jl 2 ep p,Jr 0,Jo 1,Jl 3 er r,I (r.length:Int),I 0] [ab.box [I 0,I 0],ab.sl false 3 true []]):=by kernel_rfl
theorem Cr(O:au)(h a i g:Bool)(o m j l:JL)(k c d f:Int):az ao ann O xX [Jl 1 h o,Jl 2 a m,Jr 0,Jo 1,Jl 3 i j,I k,I c] [ab.box [I d,I f],ab.sl false 3 g l]=
 (bif decide (c < k) then G1 c j λp n u=>Jg (bu 40 (l.length+ [[T.aa 1 p.fst p.snd,Ji n,Ji 0]].length)) λx=>O xX [Jl 1 h o,Jl 2 a m,Jr 0,Jo 1,Jl 3 i j,I k,I (Jw c)] [ab.box [I d,I f],ab.sl false 3 (g && false) (l++ [[T.aa 1 p.fst p.snd,Ji n,Ji 0]])] else G3 (O (.call 26) [Jl 3 g l,Jl 2 a m] []) λb=>G6 (some b) (bG (some b) (O (.call 28) [Jl 2 a m] [])) λp=>G7 (some b) (bG (some b) (O (.call 27) [Jl 1 h o,Jl 4 p.fst p.snd] [])) λq s r t=>G8 (some b) (bG (some b) (O (.call 33) [Ja q s r t] [])) λn=>some [Jb (bif b then decide (n > 0) else false),Ji 0,Ji 0]):=by kernel_rfl
theorem uU(O:au)(b f:Bool)(c g:JL)(a d:Int):az ao ann O (Key.call 45) [AV.agg [Jl 1 b c,I a,I d],Jl 2 f g] []=
 (fF (O (.call 16) [Jl 1 b c,Jl 2 f g] []) λx=>fF (O (.call 36) [I d,I 1] []) λh=>G9 (O (.call 17) [AV.t x,AV.t h] []) λn=>some [Jb (bif bif decide (n < 0) then !a==3 else false then true else bif n==0 then !a==2 else false)]):=by kernel_rfl
theorem bz(O:au)(er eg ep et:Bool)(r g p t:JL)(n vn a:Int):az ao ann O (Key.call 3) [Jl 3 er r,I n,Jl 1 eg g,AV.agg [I vn,I a],Jl 2 ep p,Jl 2 et t] []=
 (G3 (O (.call 7) [] []) λb=>bif !b then some [Jb false] else pW (O (.call 8) [Jl 3 er r,I n,Jl 1 eg g,AV.agg [I vn,I a],Jl 2 ep p,Jl 2 et t] []) λb d f=>pW (O (.call 9) [Jl 3 er r,I n,Jl 1 eg g,Jl 2 ep p] []) λc h i=>G0 (O (.call 10) [Jl 3 er r,I n,Jl 1 eg g,AV.agg [I vn,I a],Jl 2 ep p,Jl 2 et t] []) λj k=>O Me [Jl 3 er r,I n,Jl 1 eg g,Jl 2 ep p,Jl 2 et t,Jr 0,B b,Jr 1,B c,Jr 2,Jr 3,Jo 4,I 0] [ab.box [I vn,I a],ab.box [I d,I f],ab.box [I h,I i],ab.box [I j,I k],ab.sl false 2 true []]):=by kernel_rfl
end Go.Aev.Wd.Lg
namespace Go.Aev.Gen
open Go Go.Aev
structure jH (n:Nat) (r:R):Prop where
 e:r.e=true->r.of= []
 kd:r.kd=1\/r.kd=2\/r.kd=3
 len:r.of.length<=n
 of:Bd 1000000 r.of
 tv: -1000000<=r.tv/\r.tv<=1000000
theorem FQ:∀{l:List Int} {i:Nat},(nw l i).1=0->∀x∈l, -1000000<=x/\x<=1000000
 | [],_,_,x,a=>by cases a
 | y::l,i,h,x,a=>by
  rw [nw] at h;split at h
  .rename_i hy;rcases Vo.1 a with rfl | a
   .exact hy
   .exact FQ h x a
  .simp at h
theorem M3{n:Nat}{r:R}(a:r.e=true->r.of= [])(h:(ny n r).1=0):jH n r:=by
 unfold ny at h;split at h
 .simp at h
 .rename_i c;split at h
  .simp at h
  .have:=FQ h;exact⟨a,by omega,by omega,λx b=>this x (Vn _ b),this r.tv (by simp)⟩
theorem FT{n:Nat}:∀{rows:List R} {i:Nat},(∀r∈rows,r.e=true->r.of= [])->(qo n rows i).1=0->∀r∈rows,jH n r
 | [],_,_,_,r,a=>by cases a
 | q::rows,i,c,h,r,a=>by
  rw [qo] at h;split at h
  .rename_i b;rcases Vo.1 a with rfl | a
   .exact M3 (c _ Vb) b
   .exact FT (λr a=>c r (Vc _ a)) h r a
  .rename_i b;exact absurd h b
def oR(n:Int)(rows:List R):Int×Int:=if n < 0\/n > 12 then(3, -1) else yq n.toNat rows
theorem SQ(rows:List R)(e:Bool)(n:Int)(a:∀r∈rows,r.e=true->r.of= []):Or (.call 52) [LR e rows,I n] []=fl (oR n rows):=by
 unfold oR;by_cases h:n < 0\/n > 12
 .rw [if_pos h];refine al ?_;rw [GH];simp only [jm,<-WN];simp only [ai,↓reduceIte,Int.reduceBEq,Int.reduceEq,GD,h]
 .rw [if_neg h];have:=SR rows n.toNat e (by omega) a;rw [Int.toNat_of_nonneg (by omega)] at this;exact this
theorem FR{n:Int}{rows:List R}(a:∀r∈rows,r.e=true->r.of= [])(h:(oR n rows).1=0): 0<=n/\n<=12/\rows.length<=40/\∀r∈rows,jH n.toNat r:=by
 unfold oR at h;split at h
 .simp at h
 .unfold yq at h;split at h
  .simp at h
  .exact⟨by omega,by omega,by omega,FT a h⟩
end Go.Aev.Gen
namespace Go.Aev.Wd.Lg
open Go Go.Aev Go.Aev.Gen Go.Aev.Wd
open Go Go.Aev Go.Aev.Gen Go.Aev.Wd Go.Aev.Tb
def gf:List R->Nat->Int×Int
 | [],_=>(0,0)
 | r::a,i=>if r.kd=2 then(4,(i:Int)) else gf a (i+1)
def eS:List Int->Nat->Int×Int
 | [],_=>(0,0)
 | x::xs,i=>if -1000000<=x/\x<=1000000 then eS xs (i+1) else(5,(i:Int))
def dQ(n:Int)(rows:List R)(gl:List Int):Int×Int:=
 if(oR n rows).1≠0 then oR n rows else if(gf rows 0).1≠0 then gf rows 0 else if(gl.length:Int) > n then(9,0) else eS gl 0
theorem IM:∀{rows:List R} {i:Nat},(gf rows i).1=0->∀r∈rows,r.kd≠2
 | [],_,_,r,a=>by cases a
 | q::rows,i,h,r,a=>by
  rw [gf] at h;split at h
  .simp at h
  .rename_i b;rcases Vo.1 a with rfl | a
   .exact b
   .exact IM h r a
theorem Iw:∀{gl:List Int} {i:Nat},(eS gl i).1=0->∀c∈gl, -1000000<=c/\c<=1000000
 | [],_,_,r,a=>by cases a
 | q::rows,i,h,r,a=>by
  rw [eS] at h;split at h
  .rename_i b;rcases Vo.1 a with rfl | a
   .exact b
   .exact Iw h r a
  .simp at h
theorem CL:∀(gl:List Int) (i:Nat),(eS gl i).1=0->eS gl i= (0,0)
 | [],_,_=>rfl
 | q::rows,i,h=>by
  rw [eS] at h⊢;split
  .rename_i a;rw [if_pos a] at h;exact CL rows _ h
  .rename_i a;rw [if_neg a] at h;simp at h
theorem Ur(er:Bool)(rows:List R)(p:rows.length<=1000):∀(a:List R) (i:Nat),rows.drop i=a->
  Or oL [LR er rows,AV.fn 54 [] [],I (rows.length:Int),I (i:Int)] []=some [ti (if(gf a i).1=0 then -1 else(gf a i).2)]:=by
 intro a;induction a with
 | nil=>
  intro i h;have h1:¬(i:Int) < (rows.length:Int):=by have:=bw h;omega
  refine al ?_;rw [Cl];simp only [ai,↓reduceIte,Int.reduceBEq,Int.reduceEq,GD,h1,gf]
 | cons r a m=>
  intro i h;obtain⟨g,o,l⟩:=bt h;have h1:(i:Int) < (rows.length:Int):=by omega
  have j: 0<=(i:Int):=by omega
  have f:Or (.call 54) [AV.agg [aa r.e r.of,I r.kd,I r.tv]] []=some [tb (r.kd==2)]:=al (by rw [O5]);have:=m (i+1) l;by_cases b:r.kd=2
  .have d:gf (r::a) i= (4,(i:Int)):=by rw [gf,if_pos b]
   have k:¬(4:Int)=0:=by decide
   have c:(r.kd==2)=true:=by simpa using b
   rw [d];rw [c] at f;refine al ?_;rw [Cl];simp only [ai,↓reduceIte,Int.reduceBEq,Int.reduceEq,GD,h1,j,and_self,bY,fK g,f,k]
  .have d:gf (r::a) i=gf a (i+1):=by rw [gf,if_neg b]
   have c:(r.kd==2)=false:=by simpa using b
   rw [d];refine al ?_;rw [Cl];simp only [ai,↓reduceIte,Int.reduceBEq,Int.reduceEq,GD,h1,j,and_self,bY,fK g,f,c,b,next i (by omega)];exact this
theorem Us(el:Bool)(gl:List Int)(q:gl.length<=1000):∀(c:List Int) (i:Nat),gl.drop i=c->
  Or xd [aa el gl,AV.fn 56 [] [],I (gl.length:Int),I (i:Int)] []=some [ti (if(eS c i).1=0 then -1 else(eS c i).2)]:=by
 intro c;induction c with
 | nil=>
  intro i h;have h1:¬(i:Int) < (gl.length:Int):=by have:=bw h;omega
  refine al ?_;rw [B1];simp only [ai,↓reduceIte,Int.reduceBEq,Int.reduceEq,GD,h1,eS]
 | cons r c o=>
  intro i h;obtain⟨g,p,m⟩:=bt h;have h1:(i:Int) < (gl.length:Int):=by omega
  have j: 0<=(i:Int):=by omega
  have:=o (i+1) m;by_cases l: -1000000<=r/\r<=1000000
  .have f:Or (.call 56) [I r] []=some [tb false]:=al (by
    rw [HK];have a:¬r < -1000000:=by omega
    have b:¬r > 1000000:=by omega
    simp only [qm,a,b,if_false,decide_false,yp])
   have d:eS (r::c) i=eS c (i+1):=by rw [eS,if_pos l]
   rw [d];refine al ?_;rw [B1];simp only [ai,↓reduceIte,Int.reduceBEq,Int.reduceEq,GD,h1,j,and_self,cJ,iV g,f,next i (by omega)];exact this
  .have f:Or (.call 56) [I r] []=some [tb true]:=al (by
    rw [HK];by_cases a:r < -1000000
    .simp only [qm,a,if_true,decide_true,uM]
    .have b:r > 1000000:=by omega
     simp only [qm,a,b,if_false,decide_true,decide_false,yp])
   have d:eS (r::c) i= (5,(i:Int)):=by rw [eS,if_neg l]
   have k:¬(5:Int)=0:=by decide
   rw [d];refine al ?_;rw [B1];simp only [ai,↓reduceIte,Int.reduceBEq,Int.reduceEq,GD,h1,j,and_self,cJ,iV g,f,k]
theorem Qp(rows:List R):∀(i:Nat),(gf rows i).1=0\/((gf rows i).1=4/\(i:Int)<=(gf rows i).2):=by
 induction rows with
 | nil=>intro i;exact .inl rfl
 | cons r rows a=>
  intro i;rw [gf];split
  .exact .inr ⟨rfl,Yh _⟩
  .rcases a (i+1) with h | ⟨h,b⟩
   .exact .inl h
   .exact .inr ⟨h,by omega⟩
theorem Qc(gl:List Int):∀(i:Nat),(eS gl i).1=0\/((eS gl i).1=5/\(i:Int)<=(eS gl i).2):=by
 induction gl with
 | nil=>intro i;exact .inl rfl
 | cons r rows a=>
  intro i;rw [eS];split
  .rcases a (i+1) with h | ⟨h,b⟩
   .exact .inl h
   .exact .inr ⟨h,by omega⟩
  .exact .inr ⟨rfl,Yh _⟩
theorem ED(rows:List R)(er el:Bool)(n:Int)(gl:List Int)(k:∀r∈rows,r.e=true->r.of= []):Or (.call 24) [LR er rows,I n,aa el gl] []=fl (dQ n rows gl):=by
 have c:=SQ rows er n k;unfold dQ;by_cases h1:(oR n rows).1=0
 .have o:=FR k h1;rw [if_neg (by omega)];have k2:Or (.call 53) [LR er rows,AV.fn 54 [] []] []=_:=al (by rw [OY,bY];exact Ur er rows (by omega) rows 0 rfl);rcases Qp rows 0 with g | ⟨g,l⟩
  .rw [if_pos g] at k2;have b:¬(-1:Int)>=0:=by decide
   by_cases a:(gl.length:Int) > n
   .rw [if_neg (by omega),if_pos a];refine al ?_;rw [uW];simp only [ai,↓reduceIte,Int.reduceBEq,Int.reduceEq,GD,c,h1,k2,b,cJ,a]
   .have f:Or (.call 55) [aa el gl,AV.fn 56 [] []] []=_:=al (by rw [Ns,cJ];exact Us el gl (by omega) gl 0 rfl);rw [if_neg (by omega),if_neg a];rcases Qc gl 0 with d | ⟨d,m⟩
    .rw [if_pos d] at f;rw [CL _ _ d];refine al ?_;rw [uW];simp only [ai,↓reduceIte,Int.reduceBEq,Int.reduceEq,GD,c,h1,k2,b,cJ,a,f]
    .rw [if_neg (by omega)] at f;have j:(eS gl 0).2>=0:=by omega
     have h:eS gl 0= (5,(eS gl 0).2):=Yj d rfl;refine al ?_;rw [uW,h];simp only [ai,↓reduceIte,Int.reduceBEq,Int.reduceEq,GD,c,h1,k2,b,cJ,a,f,j]
  .rw [if_neg (by omega)] at k2;have i:(gf rows 0).2>=0:=by omega
   have h:gf rows 0= (4,(gf rows 0).2):=Yj g rfl;rw [if_pos (by omega)];refine al ?_;rw [uW,h];simp only [ai,↓reduceIte,Int.reduceBEq,Int.reduceEq,GD,c,h1,k2,i]
 .rw [if_pos h1];refine al ?_;rw [uW];simp only [ai,↓reduceIte,Int.reduceBEq,Int.reduceEq,GD,c,h1]
theorem BO{n:Int}{rows:List R}{gl:List Int}(j:∀r∈rows,r.e=true->r.of= [])(h:(dQ n rows gl).1=0):
  dQ n rows gl= (0,0)/\0<=n/\n<=12/\rows.length<=40/\(∀r∈rows,jH n.toNat r)/\(∀r∈rows,r.kd≠2)/\(gl.length:Int)<=n/\∀c∈gl, -1000000<=c/\c<=1000000:=by
 unfold dQ at h⊢;by_cases h1:(oR n rows).1=0
 .rw [if_neg (by omega)] at h⊢;obtain⟨d,f,g,i⟩:=FR j h1;by_cases a:(gf rows 0).1=0
  .rw [if_neg (by omega)] at h⊢;by_cases b:(gl.length:Int) > n
   .rw [if_pos b] at h;simp at h
   .rw [if_neg b] at h⊢;exact⟨CL _ _ h,d,f,g,i,IM a,by omega,Iw h⟩
  .rw [if_pos a] at h;exact absurd h a
 .rw [if_pos h1] at h;exact absurd h h1
def fN(x:Fr):Nm:=some (aW x)
theorem zO{x:Fr}(h:kM x):Or (.call 30) [AV.agg [I x.1,I x.2]] []=some (NL (fN x)):=TM x.1 x.2 (by unfold kM at h;omega) (by unfold kM at h;omega) (by unfold kM at h;omega)
theorem sJ{x:Fr}(h:kM x):QN 30 (fN x):=ze h.1 h.2
theorem Ut(x:Fr):Or (.call 58) [AV.agg [I x.1,I x.2]] []=some [tb (!decide (bI x))]:=by
 have k:=D9 x;refine al ?_;rw [O7];by_cases h:bI x
 .rw [if_pos h] at k;simp only [ai,↓reduceIte,Int.reduceBEq,Int.reduceEq,GD,k,h,decide_true]
  try rfl
 .rw [if_neg h] at k;simp only [ai,↓reduceIte,Int.reduceBEq,Int.reduceEq,GD,k,h,decide_false]
  try rfl
theorem UI(e:Bool)(l:List Fr)(p:l.length<=1000):∀(a:List Fr) (i:Nat),l.drop i=a->∃z:Int,Or xW [LN e l,AV.fn 58 [] [],I (l.length:Int),I (i:Int)] []=some [ti z]/\(decide (z>=0)= !(a.all λx=>decide (bI x))):=by
 intro a;induction a with
 | nil=>
  intro i h;have h1:¬(i:Int) < (l.length:Int):=by have:=bw h;omega
  refine⟨-1,al ?_,by simp⟩;rw [Cq];simp only [ai,↓reduceIte,Int.reduceBEq,Int.reduceEq,GD,h1]
 | cons x a j=>
  intro i h;obtain⟨d,o,g⟩:=bt h;have h1:(i:Int) < (l.length:Int):=by omega
  have f: 0<=(i:Int):=by omega
  have c:=Ut x;by_cases b:bI x
  .rw [decide_eq_true b] at c;obtain⟨z,k,m⟩:=j (i+1) g;refine⟨z,al ?_,by rw [m];simp [b]⟩;rw [Cq];simp only [ai,↓reduceIte,Int.reduceBEq,Int.reduceEq,GD,h1,f,and_self,fL,oW d,c,next i (by omega)];exact k
  .rw [decide_eq_false b] at c;refine⟨(i:Int),al ?_,by simp [b]⟩;rw [Cq];simp only [ai,↓reduceIte,Int.reduceBEq,Int.reduceEq,GD,h1,f,and_self,fL,oW d,c]
theorem As(e:Bool)(l:List Fr)(a:l.length<=1000):Or (.call 25) [LN e l] []=some [tb (!(l.all λx=>decide (bI x)))]:=by obtain⟨z,c,d⟩:=UI e l a l 0 rfl;have b:Or (.call 97) [LN e l,AV.fn 58 [] []] []=some [ti z]:=al (by rw [Pp,fL];exact c);have k2:Or (.call 57) [LN e l,AV.fn 58 [] []] []=some [tb (decide (z>=0))]:=al (by rw [O6];simp only [ai,↓reduceIte,Int.reduceBEq,Int.reduceEq,GD,b]);refine al ?_;rw [OL];simp only [ai,↓reduceIte,Int.reduceBEq,Int.reduceEq,GD,k2,d]
theorem T4(e:Bool)(l:List Fr)(u:l.length<=1000)(p:∀x∈l,kM x):∀(b a:List Fr) (i:Nat),l.drop i=b->a.length=i->a++b=l->
  Or xN [AV.own (Id.c 0),LN e l,I (l.length:Int),I (i:Int)] [ab.sl false 4 (decide (a= [])) (aS (a.map fN))]=some [T.aa 4 (decide (l= [])) (aS (l.map fN))]:=by
 intro b;induction b with
 | nil=>
  intro a i h o d;have h1:¬(i:Int) < (l.length:Int):=by have:=bw h;omega
  rw [We] at d;subst d;refine al ?_;rw [HC];simp only [ai,↓reduceIte,Int.reduceBEq,Int.reduceEq,GD,h1]
 | cons x b q=>
  intro a i h o d;obtain⟨f,t,j⟩:=bt h;have h1:(i:Int) < (l.length:Int):=by omega
  have k: 0<=(i:Int):=by omega
  have r:=zO (p x (Va f));have s:bu 48 ((aS (a.map fN)).length+ [[tb (decide ((nv (fN x)).num < 0)),T.str (bM (dz (nv (fN x)).num)),tb (nc (fN x)),T.str (nd (fN x))]].length)=some ():=iL (by rw [bJ];simp;omega);have:=q (a++ [x]) (i+1) j (by simp;omega) (by simpa using d);have g:decide (a++ [x]= [])=false:=by simp
  have m:aS (a.map fN)++ [[tb (decide ((nv (fN x)).num < 0)),T.str (bM (dz (nv (fN x)).num)),tb (nc (fN x)),T.str (nd (fN x))]]=aS ((a++ [x]).map fN):=by rw [OC,Hp,W2];rfl
  rw [g] at this;refine al ?_;rw [HC];simp only [ai,↓reduceIte,Int.reduceBEq,Int.reduceEq,GD,h1,k,and_self,fL,oW f,r,s,m,next i (by omega)];exact this
theorem EF(e:Bool)(l:List Fr)(a:l.length<=1000)(b:∀x∈l,kM x):Or (.call 28) [LN e l] []=some [T.aa 4 (decide (l= [])) (aS (l.map fN))]:=by have:=T4 e l a b l [] 0 rfl rfl rfl;refine al ?_;rw [OO,fL];exact this
def bh:List Int->List Rat->Rat
 | c::of,x::xs=>(c:Rat) * x+bh of xs
 | _,_=>0
theorem qz(xs:List Rat):bh [] xs=0:=by cases xs <;> rfl
theorem T3(eg e:Bool)(gl:List Int)(a:List Nm)(D:∀c∈gl, -1000000<=c/\c<=1000000)(M:gl.length<=a.length)(N:gl.length<=100){m:Nat}(E:∀x∈a,QN m x)(z:Nm):
  ∀(b:List Int) (i:Nat) (d:Nm) (k:Nat),gl.drop i=b->QN k d->k+ (m+21) * b.length<=6300->
  ∃y,Or xM [AV.t (T.aa 4 e (aS a)),r0,AV.ref (Id.c 1) 0,aa eg gl,I (gl.length:Int),I (i:Int)] [iz z,iz d]=some (NL y)/\nv y=nv d+bh b ((a.drop i).map nv)/\QN (k+ (m+21) * b.length) y:=by
 intro b;induction b with
 | nil=>
  intro i d k h g q;have h1:¬(i:Int) < (gl.length:Int):=by have:=bw h;omega
  refine⟨d,al ?_,by rw [qz];grind,g.mono (by omega)⟩;rw [HB];simp only [ai,↓reduceIte,Int.reduceBEq,Int.reduceEq,GD,h1]
 | cons c b F=>
  intro i d k h g q;obtain⟨p,L,w⟩:=bt h;rw [Vy,YU,YD] at q;have h1:(i:Int) < (gl.length:Int):=by omega
  have A: 0<=(i:Int):=by omega
  have B:(i:Int) < (a.length:Int):=by omega
  have K:=D c (Va p);have r:=fT c (by omega);have j:QN 20 (iN c):=eF (by omega);have f:=gF (l:=a) (i:=i) (by omega);have o:=E _ (Va f);have u:=mo j o (by omega);have s:=nU (x:=d) (y:=tm (iN c) (aq a i)) g (j.mul o) (by omega);obtain⟨y,G,H,J⟩:=F (i+1) (pl d (tm (iN c) (aq a i))) (k+ (m+21)) w ((g.add (j.mul o)).mono (by omega)) (by omega);have C:(a.drop i).map nv=nv (aq a i):: (a.drop (i+1)).map nv:=by
   have:a.drop i=aq a i::a.drop (i+1):=by rw [W5 (by omega)];congr 1;rw [Vd (by omega)] at f;exact VR f
   rw [this];rfl
  refine⟨y,al ?_, ?_,by rw [Vy,YU,YD];exact J.mono (by omega)⟩
  .rw [HB];simp only [ai,↓reduceIte,Int.reduceBEq,Int.reduceEq,GD,h1,A,B,and_self,cJ,iV p,r,bJ,cw f,u,s,next i (by omega)];exact G
  .rw [H,C,bh];show nv d+ (c:Rat) * nv (aq a i)+ _=_;grind
theorem EE(eg e:Bool)(gl:List Int)(a:List Nm)(b:∀c∈gl, -1000000<=c/\c<=1000000)(d:gl.length<=a.length)(f:gl.length<=12){m:Nat}(g:∀x∈a,QN m x)(hm:m<=400):
  ∃y,Or (.call 27) [aa eg gl,AV.t (T.aa 4 e (aS a))] []=some (NL y)/\nv y=bh gl (a.map nv)/\QN 6000 y:=by
 have hb:(m+21) * gl.length<=(m+21) * 12:=Nat.mul_le_mul_left _ f;obtain⟨y,h,i,j⟩:=T3 eg e gl a b d (by omega) g none gl 0 none 0 rfl (iM 0) (by omega);refine⟨y,al ?_,by rw [i,tc,Yo];grind,j.mono (by omega)⟩;rw [ON,cJ];exact h
theorem T0(er e:Bool)(of:List Int)(l:List Fr)(hb:∀c∈of, -1000000<=c/\c<=1000000)(C:∀x∈l,kM x)(K:of.length<=l.length)(L:of.length<=12)(z:Nm):
  ∀(a:List Int) (i:Nat) (b:Nm) (k:Nat),of.drop i=a->QN k b->k+51 * a.length<=6300->
  ∃y,Or A6 [LN e l,r0,AV.ref (Id.c 1) 0,aa er of,I (of.length:Int),I (i:Int)] [iz z,iz b]=some (NL y)/\nv y=nv b+bh a ((l.drop i).map aW)/\QN (k+51 * a.length) y:=by
 intro a;induction a with
 | nil=>
  intro i b k h f p;have h1:¬(i:Int) < (of.length:Int):=by have:=bw h;omega
  refine⟨b,al ?_,by rw [qz];grind,f.mono (by omega)⟩;rw [Hx];simp only [ai,↓reduceIte,Int.reduceBEq,Int.reduceEq,GD,h1]
 | cons c a D=>
  intro i b k h f p;obtain⟨o,J,u⟩:=bt h;rw [Vy,YU,YD] at p;have h1:(i:Int) < (of.length:Int):=by omega
  have w: 0<=(i:Int):=by omega
  have A:(i:Int) < (l.length:Int):=by omega
  have H:=hb c (Va o);have r:=fT c (by omega);have j:QN 20 (iN c):=eF (by omega);obtain⟨x,d⟩:∃x,l[i]? =some x:=⟨_,Vd (by omega)⟩;have g:=C x (Va d);have q:=zO g;have m:=sJ g;have t:=mo j m (by omega);have s:=nU (x:=b) (y:=tm (iN c) (fN x)) f (j.mul m) (by omega);obtain⟨y,E,F,G⟩:=D (i+1) (pl b (tm (iN c) (fN x))) (k+51) u ((f.add (j.mul m)).mono (by omega)) (by omega);have B:(l.drop i).map aW=aW x:: (l.drop (i+1)).map aW:=by
   have:l.drop i=x::l.drop (i+1):=by rw [W5 (by omega)];congr 1;rw [Vd (by omega)] at d;exact VR d
   rw [this];rfl
  refine⟨y,al ?_, ?_,by rw [Vy,YU,YD];exact G.mono (by omega)⟩
  .rw [Hx];simp only [ai,↓reduceIte,Int.reduceBEq,Int.reduceEq,GD,h1,w,A,and_self,cJ,iV o,r,fL,oW d,q,t,s,next i (by omega)];exact E
  .rw [F,B,bh];show nv b+ (c:Rat) * aW x+ _=_;grind
theorem UH(r:R)(n:Nat)(d:n<=12)(ok:jH n r):Or (.call 96) [AV.agg [aa r.e r.of,I r.kd,I r.tv],I (n:Int)] []=some [ti 0,ti 0]:=by
 have b:=KI r n d ok.e;have c:ny n r= (0,0):=by
  have h1:=ok.kd;have g:=ok.len;unfold ny;rw [if_neg (by omega),if_neg (by omega)];have:∀(m:List Int) (i:Nat),(∀x∈m, -1000000<=x/\x<=1000000)->nw m i= (0,0):=by
   intro m;induction m with
   | nil=>intro i _;rfl
   | cons y m f=>intro i h;rw [nw,if_pos (h y Vb)];exact f _ λx a=>h x (Vc _ a)
  refine this _ 0 λx a=> ?_;rcases Vr.1 a with a | a
  .exact ok.of x a
  .rw [Vk.1 a];exact ok.tv
 rw [c] at b;exact b
theorem TZ(e:Bool)(l:List Fr)(m:l.length<=100)(g:∀x∈l,bI x):∀(a:List Fr) (i:Nat),l.drop i=a->Or xK [r0,LN e l,I (l.length:Int),I (i:Int)] [ab.box [I 0,I 0]]=some [ti 0,ti 0]:=by
 intro a;induction a with
 | nil=>
  intro i h;have h1:¬(i:Int) < (l.length:Int):=by have:=bw h;omega
  refine al ?_;rw [Hw];simp only [ai,↓reduceIte,Int.reduceBEq,Int.reduceEq,GD,h1]
 | cons x a j=>
  intro i h;obtain⟨b,k,d⟩:=bt h;have h1:(i:Int) < (l.length:Int):=by omega
  have f: 0<=(i:Int):=by omega
  have c:=D9 x;rw [if_pos (g x (Va b))] at c;refine al ?_;rw [Hw];simp only [ai,↓reduceIte,Int.reduceBEq,Int.reduceEq,GD,h1,f,and_self,fL,oW b,c,next i (by omega)];exact j (i+1) d
def fC(r:R)(q:Rat):Bool:=if r.kd=1 then decide (q<=(r.tv:Rat)) else if r.kd=2 then decide (q < (r.tv:Rat)) else decide (q= (r.tv:Rat))
theorem Uv(r:R)(e:Bool)(l:List Fr)(B:l.length<=12)(ok:jH l.length r)(p:∀x∈l,bI x):
  Or (.call 62) [AV.agg [aa r.e r.of,I r.kd,I r.tv],LN e l] []=some [tb (fC r (bh r.of (l.map aW))),ti 0,ti 0]:=by
 have q:=UH r l.length B ok;have i:=TZ e l (by omega) p l 0 rfl;have a:Or (.call 100) [AV.agg [aa r.e r.of,I r.kd,I r.tv],LN e l] []=some [ti 0,ti 0]:=by refine al ?_;rw [OG];simp only [ai,↓reduceIte,Int.reduceBEq,Int.reduceEq,GD,fL,q];exact i
 have A:=ok.len;have F:=ok.tv;obtain⟨y,C,D,E⟩:=T0 r.e e r.of l ok.of (λx h=>(p x h).b) ok.len (by omega) none r.of 0 none 0 rfl (iM 0) (by omega);have c:Or (.call 101) [AV.agg [aa r.e r.of,I r.kd,I r.tv],LN e l] []=some (NL y):=al (by rw [OH,cJ];exact C);have f:=fT r.tv (by omega);have d:=oh (x:=y) (y:=iN r.tv) (m:=0+51 * r.of.length) (k:=20) E (eF (by omega)) (by omega);have hy:nv y=bh r.of (l.map aW):=by rw [D,tc,Yo];grind
 have hv:nv (iN r.tv)= (r.tv:Rat):=rfl;rw [hy,hv] at d;have s:=uL (bh r.of (l.map aW)) (r.tv:Rat);have t:=kf (bh r.of (l.map aW)) (r.tv:Rat);have o:=BQ (bh r.of (l.map aW)) (r.tv:Rat);have u:decide (cq (bh r.of (l.map aW)) (r.tv:Rat)<=0)=decide (bh r.of (l.map aW)<=(r.tv:Rat)):=by refine decide_eq_decide.2 ⟨λh=>Zg.1 λj=>by have:=o.2 j;omega,λh=>Int.not_lt.1 λj=>by have:=o.1 j;grind⟩
 have w:decide (cq (bh r.of (l.map aW)) (r.tv:Rat) < 0)=decide (bh r.of (l.map aW) < (r.tv:Rat)):=decide_eq_decide.2 s;have z:(cq (bh r.of (l.map aW)) (r.tv:Rat)==0)=decide (bh r.of (l.map aW)= (r.tv:Rat)):=by rw [oQ];exact decide_eq_decide.2 t
 unfold fC;by_cases h1:r.kd=1
 .rw [if_pos h1];refine al ?_;rw [Cn];simp only [ai,↓reduceIte,Int.reduceBEq,Int.reduceEq,GD,a,c,f,d];rw [if_pos h1,u]
 .by_cases g:r.kd=2
  .rw [if_neg h1,if_pos g];refine al ?_;rw [Cn];simp only [ai,↓reduceIte,Int.reduceBEq,Int.reduceEq,GD,a,c,f,d];rw [if_neg h1,if_pos g,w]
  .rw [if_neg h1,if_neg g];refine al ?_;rw [Cn];simp only [ai,↓reduceIte,Int.reduceBEq,Int.reduceEq,GD,a,c,f,d];rw [if_neg h1,if_neg g,z]
theorem Uu(er:Bool)(rows:List R)(e:Bool)(l:List Fr)(j:l.length<=12)(ok:∀r∈rows,jH l.length r)(k:∀x∈l,bI x)(s:rows.length<=40):
  ∀(a:List R) (i:Nat),rows.drop i=a->∃z:Int,Or oL [LR er rows,AV.fn 61 [] [AV.t (T.ptr [T.aa 2 e (gX l)])],I (rows.length:Int),I (i:Int)] []=some [ti z]/\(decide (z>=0)= !(a.all λr=>fC r (bh r.of (l.map aW)))):=by
 intro a;induction a with
 | nil=>
  intro i h;have h1:¬(i:Int) < (rows.length:Int):=by have:=bw h;omega
  refine⟨-1,al ?_,by simp⟩;rw [Cm];simp only [ai,↓reduceIte,Int.reduceBEq,Int.reduceEq,GD,h1]
 | cons r a m=>
  intro i h;obtain⟨c,q,g⟩:=bt h;have h1:(i:Int) < (rows.length:Int):=by omega
  have d: 0<=(i:Int):=by omega
  have f:=Uv r e l j (ok r (Va c)) k;have b:Or (.call 61) [AV.agg [aa r.e r.of,I r.kd,I r.tv],AV.t (T.ptr [T.aa 2 e (gX l)])] []=some [tb (!(fC r (bh r.of (l.map aW))))]:=al (by rw [O9];simp only [ai,↓reduceIte,Int.reduceBEq,Int.reduceEq,GD,f]);cases hb:fC r (bh r.of (l.map aW))
  .rw [hb] at b;refine⟨(i:Int),al ?_,by simp [hb]⟩;rw [Cm];simp only [ai,↓reduceIte,Int.reduceBEq,Int.reduceEq,GD,h1,d,and_self,bY,fK c,b]
  .rw [hb] at b;obtain⟨z,o,p⟩:=m (i+1) g;refine⟨z,al ?_,by rw [p];simp [hb]⟩;rw [Cm];simp only [ai,↓reduceIte,Int.reduceBEq,Int.reduceEq,GD,h1,d,and_self,bY,fK c,b,next i (by omega)];exact o
theorem LU(er:Bool)(rows:List R)(e:Bool)(l:List Fr)(b:l.length<=12)(ok:∀r∈rows,jH l.length r)(c:∀x∈l,bI x)(a:rows.length<=40):
  Or (.call 26) [LR er rows,LN e l] []=some [tb (rows.all λr=>fC r (bh r.of (l.map aW)))]:=by
 obtain⟨z,f,g⟩:=Uu er rows e l b ok c a rows 0 rfl;have d:Or (.call 53) [LR er rows,AV.fn 61 [] [AV.t (T.ptr [T.aa 2 e (gX l)])]] []=some [ti z]:=al (by rw [OZ,bY];exact f);have k2:Or (.call 60) [LR er rows,AV.fn 61 [] [AV.t (T.ptr [T.aa 2 e (gX l)])]] []=some [tb (decide (z>=0))]:=al (by rw [O8];simp only [ai,↓reduceIte,Int.reduceBEq,Int.reduceEq,GD,d]);refine al ?_;rw [OM];simp only [ai,↓reduceIte,Int.reduceBEq,Int.reduceEq,GD,k2,g,Bool.not_not]
open Go Go.Aev Go.Aev.Gen Go.Aev.Wd Go.Aev.Tb
def gU(t:Nm):List Int->List Nm->List Nm
 | c::cs,g::a=>pl g (tm (iN c) t)::gU t cs a
 | _,a=>a
def fY:List R->List Nm->List Nm×Nm->List Nm×Nm
 | r::a,x::xs,p=>fY a xs (gU x r.of p.1,pl p.2 (tm (iN r.tv) x))
 | _,_,p=>p
theorem Bn(t:Nm):∀(c:List Int) (g:List Nm),(gU t c g).length=g.length
 | [],_=>by simp [gU]
 | _::_,[]=>by simp [gU]
 | c::cs,g::a=>by simp [gU,Bn t cs a]
theorem E5{m k:Nat}{t:Nm}(f:QN k t):∀(c:List Int) (g:List Nm),(∀x∈c, -1000000<=x/\x<=1000000)->(∀x∈g,QN m x)->∀x∈gU t c g,QN (m+ (20+k)+1) x
 | [],g,_,b=>by intro x a;simp [gU] at a;exact(b x a).mono (by omega)
 | _::_,[],_,_=>by intro x a;simp [gU] at a
 | c::cs,g::i,d,b=>by
  intro x a;rw [gU] at a;have l:=d c Vb;have j:QN 20 (iN c):=eF (by omega);rcases Vo.1 a with rfl | a
  .exact(b g Vb).add (j.mul f)
  .exact E5 f cs i (λx h=>d x (Vc _ h)) (λx h=>b x (Vc _ h)) x a
theorem E6(t:Nm):∀(c:List Int) (g:List Nm) (k:Nat),k < g.length->nv (aq (gU t c g) k)=nv (aq g k)+ ((c.getD k 0:Int):Rat) * nv t
 | [],g,k,_=>by show nv (aq g k)=nv (aq g k)+ ((0:Int):Rat) * nv t;have:((0:Int):Rat)=0:=rfl;rw [this];grind
 | _::_,[],k,h=>by simp at h
 | c::cs,g::a,0,_=>rfl
 | c::cs,g::a,k+1,h=>E6 t cs a k (by simpa using h)
section
variable (er e:Bool) (rows:List R) (ts:List Nm) {n:Nat}
theorem T6{mt mg:Nat}(Z:n<=12)(hm:rows.length<=40)(V:rows.length<=ts.length)(O:∀x∈ts,QN mt x){i:Nat}(hi:i < rows.length)(ok:jH n (aY rows i))(s:(aY rows i).kd≠2)(z:Nm){to:Nm}(L:QN mg to)
  (hs:mg+ (20+mt)+1<=6300) {res:List T} {D:List Nm}
  (C:Or xO [AV.t (T.aa 4 e (aS ts)),r0,AV.own (Id.c 1),AV.ref (Id.c 2) 0,B false,LR er rows,I (rows.length:Int),I ((i+1:Nat):Int)] [iz z,ab.sl false 4 false (aS D),iz (pl to (tm (iN (aY rows i).tv) (aq ts i)))]=some res):
  ∀(d:List Int) (a b:List Nm) (j:Nat),(aY rows i).of.drop j=d->b.length=j->d.length<=a.length->(∀y∈a,QN mg y)->b++gU (aq ts i) d a=D->
  Or A7 [AV.t (T.aa 4 e (aS ts)),r0,AV.own (Id.c 1),AV.ref (Id.c 2) 0,B false,I (i:Int),AV.ref (Id.c 3) 0,LR er rows,I (rows.length:Int),I (i:Int),aa (aY rows i).e (aY rows i).of,I ((aY rows i).of.length:Int),I (j:Int)]
   [iz z,ab.sl false 4 false (aS (b++a)),iz to,ab.box [aa (aY rows i).e (aY rows i).of,I (aY rows i).kd,I (aY rows i).tv]]=some res:=by
 have f:=gF (l:=ts) (i:=i) (by omega);have q:=O _ (Va f);have r: 0<=(i:Int)/\(i:Int) < (ts.length:Int):=by omega
 have W:=ok.len;intro d;induction d with
 | nil=>
  intro a b j h w A hy p;have h1:¬(j:Int) < ((aY rows i).of.length:Int):=by have:=bw h;omega
  have F:gU (aq ts i) [] a=a:=rfl;rw [F] at p;have X:=ok.tv;have g:=fT (aY rows i).tv (by omega);have o:QN 20 (iN (aY rows i).tv):=eF (by omega);have m:=mo o q (by omega);have k:=nU (x:=to) (y:=tm (iN (aY rows i).tv) (aq ts i)) L (o.mul q) hs;have K:((aY rows i).kd==2)=false:=by simpa using s
  rw [p];refine al ?_;rw [HE];simp only [bE,ai,↓reduceIte,Int.reduceBEq,Int.reduceEq,GD,h1,g,r,and_self,bJ,cw f,m,k,K,s,VD,V7,next i (by omega)];exact C
 | cons c d Q=>
  intro a b j h w A hy p;obtain⟨E,Y,N⟩:=bt h;cases a with
  | nil=>simp at A
  | cons y a=>
   have h1:(j:Int) < ((aY rows i).of.length:Int):=by omega
   have H: 0<=(j:Int):=by omega
   have J:(j:Int) < ((b++y::a).length:Int):=by simp;omega
   have G:(b++y::a)[j]? =some y:=by rw [Wn (by omega),w,XW];rfl
   have U:=ok.of c (Va E);have g:=fT c (by omega);have o:QN 20 (iN c):=eF (by omega);have S:=hy y Vb;have m:=mo o q (by omega);have k:=nU (x:=y) (y:=tm (iN c) (aq ts i)) S (o.mul q) hs;have M:=kk (l:=b++y::a) (i:=j) (by omega) (pl y (tm (iN c) (aq ts i)));rw [rr _ _ _ _ _ w] at M;have:=Q a (b++ [pl y (tm (iN c) (aq ts i))]) (j+1) N (by simp;omega) (by simpa using A) (λu P=>hy u (Vc _ P)) (by rw [<-p];simp [gU]);simp only [VJ,Vf,Vg] at this;refine al ?_;rw [HE];simp only [ai,↓reduceIte,Int.reduceBEq,Int.reduceEq,GD,h1,H,J,r,and_self,cJ,iV E,bJ,cw G,cw f,g,m,k,M,next j (by omega)];exact this
theorem T7{mt:Nat}(K:n<=12)(hm:rows.length<=40)(Q:rows.length=ts.length)(w:∀x∈ts,QN mt x)(ok:∀r∈rows,jH n r)(u:∀r∈rows,r.kd≠2)(z:Nm):
  ∀(a:List R) (xs:List Nm) (i mg:Nat) (c:List Nm) (to:Nm),rows.drop i=a->ts.drop i=xs->c.length=n->(∀y∈c,QN mg y)->QN mg to->mg+ (mt+21) * a.length<=6300->
  Or xO [AV.t (T.aa 4 e (aS ts)),r0,AV.own (Id.c 1),AV.ref (Id.c 2) 0,B false,LR er rows,I (rows.length:Int),I (i:Int)] [iz z,ab.sl false 4 false (aS c),iz to]=
   some (T.aa 4 false (aS (fY a xs (c,to)).1):: (NL (fY a xs (c,to)).2++ [tb false]))/\
  (∀y∈(fY a xs (c,to)).1,QN (mg+ (mt+21) * a.length) y)/\QN (mg+ (mt+21) * a.length) (fY a xs (c,to)).2/\(fY a xs (c,to)).1.length=n:=by
 intro a;induction a with
 | nil=>
  intro xs i mg c to h o m d f hs;have h1:¬(i:Int) < (rows.length:Int):=by have:=bw h;omega
  have q:fY [] xs (c,to)= (c,to):=rfl;rw [q];refine⟨al ?_,λy hy=>(d y hy).mono (by omega),f.mono (by omega),m⟩;rw [HD];simp only [ai,↓reduceIte,Int.reduceBEq,Int.reduceEq,GD,h1];rfl
 | cons r a L=>
  intro xs i mg c to h o m d f hs;obtain⟨k,U,G⟩:=bt h;rw [Vy,YU,YD] at hs⊢;cases xs with
  | nil=>have:=bw o;omega
  | cons x xs=>
   obtain⟨C,x2,P⟩:=bt o;have h1:(i:Int) < (rows.length:Int):=by omega
   have H: 0<=(i:Int):=by omega
   have b:aY rows i=r:=by have:=pF (rows:=rows) (i:=i) (by omega);rw [k] at this;exact(VR this).symm
   have j:aq ts i=x:=by have:=gF (l:=ts) (i:=i) (by omega);rw [C] at this;exact(VR this).symm
   have g:=Va k;have pv:=ok r g;have A:=w x (Va C);have S:=pv.tv;have O:QN 20 (iN r.tv):=eF (by omega);have M:∀y∈gU x r.of c,QN (mg+ (mt+21)) y:=λy hy=>(E5 A r.of c pv.of d y hy).mono (by omega);have N:QN (mg+ (mt+21)) (pl to (tm (iN r.tv) x)):=(f.add (O.mul A)).mono (by omega);obtain⟨p,D,E,F⟩:=L xs (i+1) (mg+ (mt+21)) (gU x r.of c) (pl to (tm (iN r.tv) x)) G P (by rw [Bn];exact m) M N (by omega);have s:fY (r::a) (x::xs) (c,to)=fY a xs (gU x r.of c,pl to (tm (iN r.tv) x)):=rfl;rw [s];refine⟨al ?_,λy hy=>(D y hy).mono (by omega),E.mono (by omega),F⟩;have J:=pv.len;rw [<-b,<-j] at p;have:=T6 er e rows ts (n:=n) K hm (by omega) w (i:=i) (by omega) (by rw [b];exact pv) (by rw [b];exact u r g) z f (mg:=mg) (by omega) p (aY rows i).of c [] 0 rfl rfl (by rw [b];omega) d rfl;rw [b,j] at this;simp only [Vg] at this;rw [HD];simp only [ai,↓reduceIte,Int.reduceBEq,Int.reduceEq,GD,h1,H,and_self,bY,fK k,cJ];exact this
theorem T5{mt:Nat}(j:n<=12)(hm:rows.length<=40)(b:rows.length=ts.length)(l:∀x∈ts,QN mt x)(ok:∀r∈rows,jH n r)(a:∀r∈rows,r.kd≠2)(hs:mt<=130):
  Or (.call 31) [LR er rows,I (n:Int),AV.t (T.aa 4 e (aS ts))] []=
   some (T.aa 4 false (aS (fY rows ts (List.replicate n none,none)).1):: (NL (fY rows ts (List.replicate n none,none)).2++ [tb false]))/\
  (∀y∈(fY rows ts (List.replicate n none,none)).1,QN 6100 y)/\QN 6100 (fY rows ts (List.replicate n none,none)).2/\(fY rows ts (List.replicate n none,none)).1.length=n:=by
 have hb:(mt+21) * rows.length<=(130+21) * 40:=YL (by omega) hm;obtain⟨f,g,h,i⟩:=T7 er e rows ts (n:=n) j hm b l ok a none rows ts 0 0 (List.replicate n none) none rfl rfl (by simp) (λy hy=>by rw [WD hy];exact iM _) (iM _) (by omega);have c:=qR (k:=n) (by omega);have d:((n:Nat):Int).toNat=n:=by omega
 refine⟨al ?_,λy hy=>(g y hy).mono (by omega),h.mono (by omega),i⟩;rw [OP];simp only [ai,↓reduceIte,Int.reduceBEq,Int.reduceEq,GD,c,d,sF,bY];exact f
end
def ji:List R->List Rat->Nat->Rat
 | r::a,t::ts,k=>((r.of.getD k 0:Int):Rat) * t+ji a ts k
 | _,_,_=>0
def jT:List R->List Rat->Rat
 | r::a,t::ts=>(r.tv:Rat) * t+jT a ts
 | _,_=>0
theorem FK:∀(a:List R) (xs:List Nm) (c:List Nm) (to:Nm) (k:Nat),k < c.length->nv (aq (fY a xs (c,to)).1 k)=nv (aq c k)+ji a (xs.map nv) k
 | [],xs,c,to,k,_=>by
  have:ji [] (xs.map nv) k=0:=by cases xs <;> rfl
  rw [this];show nv (aq c k)=_;grind
 | r::a,[],c,to,k,_=>by show nv (aq c k)=nv (aq c k)+0;grind
 | r::a,x::xs,c,to,k,h=>by have b:fY (r::a) (x::xs) (c,to)=fY a xs (gU x r.of c,pl to (tm (iN r.tv) x)):=rfl;rw [b,FK a xs _ _ k (by rw [Bn];exact h),E6 _ _ _ _ h,V6,ji];grind
theorem FL:∀(a:List R) (xs:List Nm) (c:List Nm) (to:Nm),nv (fY a xs (c,to)).2=nv to+jT a (xs.map nv)
 | [],xs,c,to=>by
  have:jT [] (xs.map nv)=0:=by cases xs <;> rfl
  rw [this];show nv to=_;grind
 | r::a,[],c,to=>by show nv to=nv to+0;grind
 | r::a,x::xs,c,to=>by have b:fY (r::a) (x::xs) (c,to)=fY a xs (gU x r.of c,pl to (tm (iN r.tv) x)):=rfl;rw [b,FL a xs,V6,jT];show nv to+ (r.tv:Rat) * nv x+ _=_;grind
def hH:List R->List Fr->Bool
 | r::a,t::ts=> !(decide (r.kd=1) && decide (t.1 < 0)) && hH a ts
 | _,_=>true
def iJ(n:Nat)(rows:List R)(gl:List Int)(v:Fr)(point times:List Fr):Bool:=
 (rows.all λr=>fC r (bh r.of (point.map aW))) && decide (bh gl (point.map aW)=aW v) && hH rows times &&
  ((List.range n).all λk=>decide (ji rows (times.map aW) k= ((gl.getD k 0:Int):Rat))) && decide (jT rows (times.map aW)=aW v)
def m9(n:Int)(rows:List R)(gl:List Int)(v:Fr)(point times:List Fr):Int×Int:=
 if(dQ n rows gl).1≠0 then dQ n rows gl else if(point.length:Int)≠n\/times.length≠rows.length then(9,0) else
 if(decide (bI v) && (point.all λx=>decide (bI x)) && (times.all λx=>decide (bI x)))=true then(0,0) else(5,0)
section
variable {n:Nat} (rows:List R) (er eg ep et:Bool) (gl:List Int) (v:Fr) (point times:List Fr)
theorem UF(hv:bI v)(S:n<=12)(O:gl.length<=n)(C:∀c∈gl, -1000000<=c/\c<=1000000)(a:List Nm)(to:Nm)(Q:a.length=n)(B:∀y∈a,QN 6100 y)(E:QN 6100 to):
  ∀(xs:List Nm) (k:Nat),a.drop k=xs->(∀y,Or uw [aa eg gl,r0,AV.ref (Id.c 1) 0,AV.ref (Id.c 2) 0,AV.t (T.aa 4 false (aS a)),I (n:Int),I (k:Int)] [ab.box [I v.1,I v.2],ab.box [I 0,I 0],iz to]=y->
   y=some [tb (((List.range' k (n - k)).all λj=>decide (nv (aq a j)= ((gl.getD j 0:Int):Rat))) && decide (nv to=aW v)),ti 0,ti 0]):=by
 intro xs;induction xs with
 | nil=>
  intro k h y hy;have N:=bw h;have h1:¬(k:Int) < (n:Int):=by omega
  have G:=zO hv.b;have g:=oh (x:=to) (y:=fN v) (m:=6100) (k:=30) E (sJ hv.b) (by omega);have J:(cq (nv to) (nv (fN v))==0)=decide (nv to=aW v):=by rw [oQ];exact decide_eq_decide.2 (kf _ _)
  have A:n - k=0:=by omega
  rw [<-hy,A];refine al ?_;rw [uZ];simp only [ai,↓reduceIte,Int.reduceBEq,Int.reduceEq,GD,h1,G,g,J,List.range'_zero,ZG]
 | cons x xs L=>
  intro k h y hy;obtain⟨r,P,K⟩:=bt h;have h1:(k:Int) < (n:Int):=by omega
  have s: 0<=(k:Int):=by omega
  have q:(k:Int) < (a.length:Int):=by omega
  have F:aq a k=x:=by have:=gF (l:=a) (i:=k) (by omega);rw [r] at this;exact(VR this).symm
  have u:=fT 0 (by omega);have A:List.range' k (n - k)=k::List.range' (k+1) (n - (k+1)):=by rw [show n - k= (n - (k+1))+1 by omega,X6]
  have w:=L (k+1) K _ rfl;have H:=B x (Va r);rw [<-hy,A,WV,F];by_cases D:k < gl.length
  .have f:(k:Int) < (gl.length:Int):=by omega
   have p:gl[k]? =some (gl.getD k 0):=by rw [U9,Vd D];rfl
   have M:=C _ (Va p);have z:=fT (gl.getD k 0) (by omega);have g:=oh (x:=x) (y:=iN (gl.getD k 0)) (m:=6100) (k:=20) H (eF (by omega)) (by omega);by_cases o:nv x= ((gl.getD k 0:Int):Rat)
   .have d:cq (nv x) (nv (iN (gl.getD k 0)))=0:=(kf _ _).2 o;rw [decide_eq_true o,WS];refine al ?_;rw [uZ];simp only [ai,↓reduceIte,Int.reduceBEq,Int.reduceEq,GD,h1,s,q,f,and_self,bJ,cw r,u,cJ,iV p,z,g,d,next k (by omega)];exact w
   .have d:¬cq (nv x) (nv (iN (gl.getD k 0)))=0:=λh=>o ((kf _ _).1 h);rw [decide_eq_false o,WZ,WZ];refine al ?_;rw [uZ];simp only [ai,↓reduceIte,Int.reduceBEq,Int.reduceEq,GD,h1,s,q,f,and_self,bJ,cw r,u,cJ,iV p,z,g,d]
  .have f:¬(k:Int) < (gl.length:Int):=by omega
   have p:gl.getD k 0=0:=by rw [U9,Wc (by omega)];rfl
   have g:=oh (x:=x) (y:=iN 0) (m:=6100) (k:=20) H (eF (by decide)) (by omega);rw [p];by_cases o:nv x= ((0:Int):Rat)
   .have d:cq (nv x) (nv (iN 0))=0:=(kf _ _).2 o;rw [decide_eq_true o,WS];refine al ?_;rw [uZ];simp only [ai,↓reduceIte,Int.reduceBEq,Int.reduceEq,GD,h1,s,q,f,and_self,bJ,cw r,u,cJ,g,d,next k (by omega)];exact w
   .have d:¬cq (nv x) (nv (iN 0))=0:=λh=>o ((kf _ _).1 h);rw [decide_eq_false o,WZ,WZ];refine al ?_;rw [uZ];simp only [ai,↓reduceIte,Int.reduceBEq,Int.reduceEq,GD,h1,s,q,f,and_self,bJ,cw r,u,cJ,g,d]
theorem UG(hv:bI v)(M:n<=12)(hm:rows.length<=40)(ok:∀r∈rows,jH n r)(L:∀r∈rows,r.kd≠2)(K:gl.length<=n)(J:∀c∈gl, -1000000<=c/\c<=1000000)(U:times.length=rows.length)(s:∀x∈times,bI x):
  ∀(d:List R) (ts:List Fr) (i:Nat),rows.drop i=d->times.drop i=ts->
  Or xV [LR er rows,I (n:Int),aa eg gl,LN et times,r0,AV.ref (Id.c 1) 0,LR er rows,I (rows.length:Int),I (i:Int)] [ab.box [I v.1,I v.2],ab.box [I 0,I 0]]=
   some [tb (hH d ts && ((List.range n).all λk=>decide (ji rows (times.map aW) k= ((gl.getD k 0:Int):Rat))) && decide (jT rows (times.map aW)=aW v)),ti 0,ti 0]:=by
 intro d;induction d with
 | nil=>
  intro ts i h E;have h1:¬(i:Int) < (rows.length:Int):=by have:=bw h;omega
  have o:hH [] ts=true:=by cases ts <;> rfl
  have O:=EF et times (by omega) (λx F=>(s x F).b);have g:(times.map fN).map nv=times.map aW:=by rw [XV];rfl
  obtain⟨q,q1,P,G⟩:=T5 er (decide (times= [])) rows (times.map fN) (n:=n) (mt:=30) M hm (by simp;omega) (λx F=>by
   obtain⟨y,hy,rfl⟩:=VK.1 F;exact sJ (s y hy).b) ok L (by omega)
  have u:=λk (a:k < n)=>FK rows (times.map fN) (List.replicate n none) none k (by simpa using a);have w:=FL rows (times.map fN) (List.replicate n none) none;rw [g] at w;generalize fY rows (times.map fN) (List.replicate n none,none)=m at q q1 P G u w;have:=UF (n:=n) eg gl v hv M K J m.1 m.2 G q1 P m.1 0 rfl _ rfl;have D:((List.range' 0 (n - 0)).all λj=>decide (nv (aq m.1 j)= ((gl.getD j 0:Int):Rat)))= ((List.range n).all λk=>decide (ji rows (times.map aW) k= ((gl.getD k 0:Int):Rat))):=by
   rw [Wq,<-Yv,Bool.eq_iff_iff,Vu,Vu];refine forall_congr' λk=> ?_;constructor
   .intro A a;have:=u k (Xi.1 a);have hz:nv (aq (List.replicate n (none:Nm)) k)=0:=by
     unfold aq;rw [U9,Xc];split <;> rfl
    rw [hz,g,Zh] at this;rw [<-this];exact A a
   .intro A a;have:=u k (Xi.1 a);have hz:nv (aq (List.replicate n (none:Nm)) k)=0:=by
     unfold aq;rw [U9,Xc];split <;> rfl
    rw [hz,g,Zh] at this;rw [this];exact A a
  have N:nv m.2=jT rows (times.map aW):=by rw [w,tc,Zh]
  rw [D,N] at this;rw [o,WS];simp only [Vf,Vg] at q;refine al ?_;rw [y5];simp only [ai,↓reduceIte,Int.reduceBEq,Int.reduceEq,GD,h1,O,q,bJ,G];exact this
 | cons r d S=>
  intro ts i h E;obtain⟨z,V,Q⟩:=bt h;cases ts with
  | nil=>have:=bw E;omega
  | cons t ts=>
   obtain⟨H,W,T⟩:=bt E;have h1:(i:Int) < (rows.length:Int):=by omega
   have B: 0<=(i:Int):=by omega
   have C:(i:Int) < (times.length:Int):=by omega
   have p:=S ts (i+1) Q T;have o:hH (r::d) (t::ts)= (!(decide (r.kd=1) && decide (t.1 < 0)) && hH d ts):=rfl;rw [o];by_cases a:r.kd=1
   .have l:(r.kd==1)=true:=by simpa using a
    by_cases f:t.1 < 0
    .refine al ?_;rw [y5];simp only [ai,↓reduceIte,Int.reduceBEq,Int.reduceEq,GD,h1,B,C,and_self,bY,fK z,l,fL,oW H,f,decide_true];simp [a,f]
    .have e:(!(decide (r.kd=1) && decide (t.1 < 0)) && hH d ts)=hH d ts:=by simp [a,f]
     rw [e];refine al ?_;rw [y5];simp only [ai,↓reduceIte,Int.reduceBEq,Int.reduceEq,GD,h1,B,C,and_self,bY,fK z,l,fL,oW H,f,decide_false,next i (by omega)];split
     .exact p
     .exact p
   .have l:(r.kd==1)=false:=by simpa using a
    have e:(!(decide (r.kd=1) && decide (t.1 < 0)) && hH d ts)=hH d ts:=by simp [a]
    rw [e];refine al ?_;rw [y5];simp only [ai,↓reduceIte,Int.reduceBEq,Int.reduceEq,GD,h1,B,C,and_self,bY,fK z,l,a,fL,oW H,next i (by omega)];exact p
end
open Go Go.Aev Go.Aev.Gen Go.Aev.Wd Go.Aev.Tb
abbrev Av(v:Fr):AV:=AV.agg [I v.1,I v.2]
set_option maxRecDepth 10000 in
theorem u8(rows:List R)(er eg ep et:Bool)(n:Int)(gl:List Int)(v:Fr)(point times:List Fr)(P:∀r∈rows,r.e=true->r.of= []):
  Or (.call 8) [LR er rows,I n,aa eg gl,Av v,LN ep point,LN et times] []=
   some (if(m9 n rows gl v point times).1=0 then [tb (iJ n.toNat rows gl v point times),ti 0,ti 0] else [tb false,ti (m9 n rows gl v point times).1,ti (m9 n rows gl v point times).2]):=by
 have a:=ED rows er eg n gl P;by_cases h1:(dQ n rows gl).1=0
 .obtain⟨_,Y,Z,J,F,V,a6,K⟩:=BO P h1;obtain⟨n,rfl⟩:∃m:Nat,n= (m:Int):=⟨n.toNat,by omega⟩;simp only [VE] at F;by_cases L:(point.length:Int)≠(n:Int)\/times.length≠rows.length
  .have s:m9 (n:Int) rows gl v point times= (9,0):=by unfold m9;rw [if_neg (by omega),if_pos L]
   have hb:(if(point.length:Int)= (n:Int) then !((times.length:Int)== (rows.length:Int)) else true)=true:=by
    by_cases M:(point.length:Int)= (n:Int)
    .rw [if_pos M];have:¬(times.length:Int)= (rows.length:Int):=by omega
     simpa using this
    .rw [if_neg M]
   rw [s];refine al ?_;rw [oY];simp only [ai,↓reduceIte,Int.reduceBEq,Int.reduceEq,GD,a,h1,fL,bY,hb]
   try rfl
  .have W:point.length=n:=by omega
   have Q:times.length=rows.length:=by omega
   have hb:(if(point.length:Int)= (n:Int) then !((times.length:Int)== (rows.length:Int)) else true)=false:=by
    rw [if_pos (by omega)];have:(times.length:Int)= (rows.length:Int):=by omega
    simpa using this
   have c:Or (.call 25) [AV.t (T.aa 2 false [[ti v.1,ti v.2]])] []=some [tb (!([v].all λx=>decide (bI x)))]:=As false [v] (by simp);have g:=As ep point (by omega);have j:=As et times (by omega);have w:([v].all λx=>decide (bI x))=decide (bI v):=by simp
   rw [w] at c;have s:m9 (n:Int) rows gl v point times=if(decide (bI v) && (point.all λx=>decide (bI x)) && (times.all λx=>decide (bI x)))=true then(0,0) else(5,0):=by unfold m9;rw [if_neg (by omega),if_neg L]
   rw [s];cases p:decide (bI v)
   .rw [p] at c;refine al ?_;rw [oY];simp only [bE,ai,↓reduceIte,Int.reduceBEq,Int.reduceEq,GD,a,h1,fL,bY,hb,c,Vv,Vs,WZ]
    try rfl
   .rw [p] at c;cases l:point.all λx=>decide (bI x)
    .rw [l] at g;refine al ?_;rw [oY];simp only [bE,ai,↓reduceIte,Int.reduceBEq,Int.reduceEq,GD,a,h1,fL,bY,hb,c,g,Vv,Vs,WZ]
     try rfl
    .rw [l] at g;cases o:times.all λx=>decide (bI x)
     .rw [o] at j;refine al ?_;rw [oY];simp only [bE,ai,↓reduceIte,Int.reduceBEq,Int.reduceEq,GD,a,h1,fL,bY,hb,c,g,j,Vv,Vs,WZ]
      try rfl
     .rw [o] at j;have hv:bI v:=of_decide_eq_true p;have q:∀x∈point,bI x:=λx f=>of_decide_eq_true (Vu.1 l x f);have S:∀x∈times,bI x:=λx f=>of_decide_eq_true (Vu.1 o x f);have d:=LU er rows ep point (by omega) (by rw [W];exact F) q J;have C:=EF ep point (by omega) (λx f=>(q x f).b);obtain⟨y,U,H,X⟩:=EE eg (decide (point= [])) gl (point.map fN) K (by simp;omega) (by omega) (m:=30) (λx f=>by
       obtain⟨z,hz,rfl⟩:=VK.1 f;exact sJ (q z hz).b) (by omega)
      have G:(point.map fN).map nv=point.map aW:=by rw [XV];rfl
      rw [G] at H;have E:=zO hv.b;have D:=oh (x:=y) (y:=fN v) (m:=6000) (k:=30) X (sJ hv.b) (by omega);have A:=UG (n:=n) rows er eg et gl v times hv (by omega) J F V (by omega) K Q S rows times 0 rfl rfl;have B:iJ n rows gl v point times= ((rows.all λr=>fC r (bh r.of (point.map aW))) && (decide (bh gl (point.map aW)=aW v) && (hH rows times && ((List.range n).all λk=>decide (ji rows (times.map aW) k= ((gl.getD k 0:Int):Rat))) && decide (jT rows (times.map aW)=aW v)))):=by unfold iJ;simp only [Bool.and_assoc]
      simp only [Bool.and_self,if_true];rw [VE,B];cases N:rows.all λr=>fC r (bh r.of (point.map aW))
      .rw [N] at d;refine al ?_;rw [oY];simp only [bE,ai,↓reduceIte,Int.reduceBEq,Int.reduceEq,GD,a,h1,fL,bY,hb,c,g,j,d,Vv,Vs,WZ]
      .rw [N] at d;by_cases u:bh gl (point.map aW)=aW v
       .have i:cq (nv y) (nv (fN v))=0:=(kf _ _).2 (by rw [H];exact u);rw [decide_eq_true u,WS,WS];refine al ?_;rw [oY];simp only [ai,↓reduceIte,Int.reduceBEq,Int.reduceEq,GD,a,h1,fL,bY,hb,c,g,j,d,C,U,E,D,i,Vv,Vs];exact A
       .have i:¬cq (nv y) (nv (fN v))=0:=λh=>u (by rw [<-H];exact(kf _ _).1 h);have O:(!(cq (nv y) (nv (fN v))==0))=true:=by simpa using i
        rw [decide_eq_false u,WS,WZ];refine al ?_;rw [oY];simp only [ai,↓reduceIte,Int.reduceBEq,Int.reduceEq,GD,a,h1,fL,bY,hb,c,g,j,d,C,U,E,D,i,O,Vv,Vs]
 .have s:m9 n rows gl v point times=dQ n rows gl:=by unfold m9;rw [if_pos h1]
  rw [s,if_neg h1];refine al ?_;rw [oY];simp only [ai,↓reduceIte,Int.reduceBEq,Int.reduceEq,GD,a,h1]
def iu(r:R):R:={r with tv:=0}
def na(n:Int)(rows:List R)(gl:List Int)(point:List Fr):Int×Int:=
 if(dQ n rows gl).1≠0 then dQ n rows gl else if(point.length:Int)≠n then(9,0) else if(point.all λx=>decide (bI x))=true then(0,0) else(5,0)
def mq(rows:List R)(gl:List Int)(point:List Fr):Bool:=((rows.map iu).all λr=>fC r (bh r.of (point.map aW))) && decide (0 < bh gl (point.map aW))
theorem Hk(a b:List R):cU a++cU b=cU (a++b):=by simp [cU]
theorem UJ(rows:List R)(er eg ep:Bool)(n:Nat)(gl:List Int)(point:List Fr)(Q:n<=12)(hm:rows.length<=40)(ok:∀r∈rows,jH n r)(N:gl.length<=n)(u:∀c∈gl, -1000000<=c/\c<=1000000)(G:point.length=n)(g:∀x∈point,bI x):
  ∀(d a:List R) (i:Nat),rows.drop i=d->a.length=i->a++d=rows->
  Or xX [aa eg gl,LN ep point,r0,AV.own (Id.c 1),LR er rows,I (rows.length:Int),I (i:Int)] [ab.box [I 0,I 0],ab.sl false 3 (decide (a= [])) (cU (a.map iu))]=some [tb (mq rows gl point),ti 0,ti 0]:=by
 intro d;induction d with
 | nil=>
  intro a i h F j;have h1:¬(i:Int) < (rows.length:Int):=by have:=bw h;omega
  rw [We] at j;subst j;have f:=LU (decide (a= [])) (a.map iu) ep point (by omega) (λr J=>by
   obtain⟨q,H,rfl⟩:=VK.1 J;have o:=ok q H;rw [G];exact⟨o.e,o.kd,o.len,o.of,by show -1000000<=(0:Int)/\(0:Int)<=1000000;omega⟩) g (by simpa using hm)
  have w:=EF ep point (by omega) (λx s=>(g x s).b);obtain⟨y,M,A,S⟩:=EE eg (decide (point= [])) gl (point.map fN) u (by simp;omega) (by omega) (m:=30) (λx s=>by
   obtain⟨z,hz,rfl⟩:=VK.1 s;exact sJ (g z hz).b) (by omega)
  have l:(point.map fN).map nv=point.map aW:=by rw [XV];rfl
  rw [l] at A;have ks:=lM y;have p:decide ((nv y).num.sign > 0)=decide (0 < bh gl (point.map aW)):=by
   rw [A];refine decide_eq_decide.2 ?_;have h1:=s8 (-(bh gl (point.map aW)));rcases pJ (bh gl (point.map aW)) with e | e | e
   .rw [e];refine⟨λ_=> ?_,λ_=>by decide⟩;have O:¬bh gl (point.map aW) < 0:=λh=>by have:=(s8 _).2 h;rw [e] at this;exact absurd this (by decide)
    have k:bh gl (point.map aW)≠0:=λh=>by have:=(gu _).2 h;rw [e] at this;exact absurd this (by decide)
    grind
   .rw [e];refine⟨λh=>absurd h (by decide),λh=> ?_⟩;have:=(s8 (bh gl (point.map aW))).1 (by rw [e];decide);exact absurd h (by grind)
   .rw [e];refine⟨λh=>absurd h (by decide),λh=> ?_⟩;have:=(gu (bh gl (point.map aW))).1 e;rw [this] at h;exact absurd h (by grind)
  unfold mq;rw [<-p];cases t:(a.map iu).all λr=>fC r (bh r.of (point.map aW))
  .rw [t] at f;refine al ?_;rw [Cr];simp only [bE,ai,↓reduceIte,Int.reduceBEq,Int.reduceEq,GD,h1,f,WZ]
  .rw [t] at f;refine al ?_;rw [Cr];simp only [ai,↓reduceIte,Int.reduceBEq,Int.reduceEq,GD,h1,f,w,M,ks,WS]
 | cons r d K=>
  intro a i h F j;obtain⟨B,P,C⟩:=bt h;have h1:(i:Int) < (rows.length:Int):=by omega
  have D: 0<=(i:Int):=by omega
  have L:bu 40 ((a.map iu).length+ [[T.aa 1 r.e (enc r.of),ti r.kd,ti 0]].length)=some ():=iL (by simp;omega);have E:cU (a.map iu)++ [[T.aa 1 r.e (enc r.of),ti r.kd,ti 0]]=cU ((a++ [r]).map iu):=by rw [W2,<-Hk];rfl
  have:=K (a++ [r]) (i+1) C (by simp;omega) (by simpa using j);have k:decide (a++ [r]= [])=false:=by simp
  rw [k] at this;refine al ?_;rw [Cr];simp only [ai,↓reduceIte,Int.reduceBEq,Int.reduceEq,GD,h1,D,and_self,bY,fK B,L,E,next i (by omega)];exact this
theorem u9(rows:List R)(er eg ep:Bool)(n:Int)(gl:List Int)(point:List Fr)(j:∀r∈rows,r.e=true->r.of= []):
  Or (.call 9) [LR er rows,I n,aa eg gl,LN ep point] []=
   some (if(na n rows gl point).1=0 then [tb (mq rows gl point),ti 0,ti 0] else [tb false,ti (na n rows gl point).1,ti (na n rows gl point).2]):=by
 have b:=ED rows er eg n gl j;by_cases h1:(dQ n rows gl).1=0
 .obtain⟨_,p,q,k,h,s,t,l⟩:=BO j h1;obtain⟨n,rfl⟩:∃m:Nat,n= (m:Int):=⟨n.toNat,by omega⟩;simp only [VE] at h;by_cases g:(point.length:Int)≠(n:Int)
  .have a:¬(point.length:Int)= (n:Int):=g;have d:na (n:Int) rows gl point= (9,0):=by unfold na;rw [if_neg (by omega),if_pos g]
   rw [d];refine al ?_;rw [y6];simp only [ai,↓reduceIte,Int.reduceBEq,Int.reduceEq,GD,b,h1,fL,a]
   try rfl
  .have a:(point.length:Int)= (n:Int):=by omega
   have f:=As ep point (by omega);have d:na (n:Int) rows gl point=if(point.all λx=>decide (bI x))=true then(0,0) else(5,0):=by unfold na;rw [if_neg (by omega),if_neg g]
   rw [d];cases c:point.all λx=>decide (bI x)
   .rw [c] at f;refine al ?_;rw [y6];simp only [ai,↓reduceIte,Int.reduceBEq,Int.reduceEq,GD,b,h1,fL,a,f,Vv]
    try rfl
   .rw [c] at f;have i:∀x∈point,bI x:=λx o=>of_decide_eq_true (Vu.1 c x o);have:=UJ rows er eg ep n gl point (by omega) k h (by omega) l (by omega) i rows [] 0 rfl rfl rfl;simp only [if_true];refine al ?_;rw [y6];simp only [ai,↓reduceIte,Int.reduceBEq,Int.reduceEq,GD,b,h1,fL,a,f,Vs,bY];exact this
 .have d:na n rows gl point=dQ n rows gl:=by unfold na;rw [if_pos h1]
  rw [d,if_neg h1];refine al ?_;rw [y6];simp only [ai,↓reduceIte,Int.reduceBEq,Int.reduceEq,GD,b,h1]
def cK(x:Nm):Fr:=if cZ (nv x)=true then((nv x).num,((nv x).den:Int)) else(0,0)
theorem J3{m:Nat}{x:Nm}(b:QN m x)(h:m<=6300):Or (.call 43) [EN x] []=some [ti (cK x).1,ti (cK x).2,tb (cZ (nv x))]:=by
 have:=Lw b h;unfold cK;cases a:cZ (nv x)
 .rw [a] at this;exact this
 .rw [a] at this;exact this
theorem Ug(e:Bool)(l:List Nm)(A:l.length<=1000){m:Nat}(s:∀x∈l,QN m x)(hm:m<=6300):∀(d a:List Nm) (i:Nat) (b:Bool),l.drop i=d->a.length=i->a++d=l->b=a.all (λx=>cZ (nv x))->
  Or xQ [AV.own (Id.c 0),B b,AV.t (T.aa 4 e (aS l)),I (l.length:Int),I (i:Int)] [ab.sl false 2 (decide (a= [])) (gX (a.map cK))]=some [T.aa 2 (decide (l= [])) (gX (l.map cK)),tb (l.all λx=>cZ (nv x))]:=by
 intro d;induction d with
 | nil=>
  intro a i b h r f hb;have h1:¬(i:Int) < (l.length:Int):=by have:=bw h;omega
  rw [We] at f;subst f;rw [<-hb];refine al ?_;rw [HH];simp only [ai,↓reduceIte,Int.reduceBEq,Int.reduceEq,GD,h1]
 | cons x d u=>
  intro a i b h r f hb;obtain⟨g,z,o⟩:=bt h;have h1:(i:Int) < (l.length:Int):=by omega
  have p: 0<=(i:Int):=by omega
  have w:=J3 (s x (Va g)) hm;have y:bu 16 ((gX (a.map cK)).length+ [[ti (cK x).1,ti (cK x).2]].length)=some ():=iL (by rw [fL];simp;omega);have q:gX (a.map cK)++ [[ti (cK x).1,ti (cK x).2]]=gX ((a++ [x]).map cK):=by simp [gX]
  have:=u (a++ [x]) (i+1) (if b=true then cZ (nv x) else false) o (by simp;omega) (by simpa using f) (by rw [hb,List.all_append];cases a.all (λx=>cZ (nv x)) <;> simp);have k:decide (a++ [x]= [])=false:=by simp
  rw [k] at this;have j:(bif b then cZ (nv x) else false)=if b=true then cZ (nv x) else false:=by cases b <;> rfl
  refine al ?_;rw [HH];simp only [ai,↓reduceIte,Int.reduceBEq,Int.reduceEq,GD,h1,p,and_self,bJ,cw g,w,y,q,j,next i (by omega)];exact this
theorem At(e:Bool)(l:List Nm)(a:l.length<=1000){m:Nat}(b:∀x∈l,QN m x)(hm:m<=6300):
  Or (.call 40) [AV.t (T.aa 4 e (aS l))] []=some [T.aa 2 (decide (l= [])) (gX (l.map cK)),tb (l.all λx=>cZ (nv x))]:=by
 have:=Ug e l a b hm l [] 0 true rfl rfl rfl rfl;refine al ?_;rw [OS,bJ];exact this
end Go.Aev.Wd.Lg
