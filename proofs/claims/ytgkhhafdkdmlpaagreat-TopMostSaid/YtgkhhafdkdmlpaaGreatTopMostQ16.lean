import Derived.Test.YtgkhhafdkdmlpaaGreatTopMostQ6
import Derived.Test.YtgkhhafdkdmlpaaGreatTopMostQ15
set_option linter.all false
namespace Go.Aev.Wd.Lg
open Go Go.Aev Go.Aev.Gen
noncomputable abbrev vM:Key:=aZ ar 10 true 10 [(2,none),(3,none),(9,none),(11,some 3),(32,none),(33,none),(34,none)] (0,0)
theorem wU(O:aB)(er eg ep:Bool)(r g p:JL)(n:Int):aF ar ann O (Key.call 10) [Jl 3 er r,I n,Jl 1 eg g,Jl 2 ep p] []=
 (G0 (O (.call 11) [Jl 3 er r,I n,Jl 1 eg g] []) λa c=>bif !a==0 then some [Jb false,Ji a,Ji c] else bif !(p.length:Int)==n then some [Jb false,Ji 9,Ji 0] else G3 (O (.call 24) [Jl 2 ep p] []) λb=>bif b then some [Jb false,Ji 5,Ji 0] else O vM [Jl 1 eg g,Jl 2 ep p,Jr 0,Jo 1,Jl 3 er r,I (r.length:Int),I 0] [ab.box [I 0,I 0],ab.sl false 3 true []]):=by kernel_rfl
theorem Al(O:aB)(h a i g:Bool)(o m j l:JL)(k c d f:Int):aF ar ann O vM [Jl 1 h o,Jl 2 a m,Jr 0,Jo 1,Jl 3 i j,I k,I c] [ab.box [I d,I f],ab.sl false 3 g l]=
 (bif decide (c < k) then G1 c j λp n u=>Jg (bY 40 (l.length+ [[T.ae 1 p.fst p.snd,Ji n,Ji 0]].length)) λx=>O vM [Jl 1 h o,Jl 2 a m,Jr 0,Jo 1,Jl 3 i j,I k,I (Jw c)] [ab.box [I d,I f],ab.sl false 3 (g && false) (l++ [[T.ae 1 p.fst p.snd,Ji n,Ji 0]])] else G3 (O (.call 25) [Jl 3 g l,Jl 2 a m] []) λb=>G6 (some b) (cB (some b) (O (.call 26) [Jl 2 a m] [])) λp=>G7 (some b) (cB (some b) (O (.call 16) [Jl 1 h o,Jl 4 p.fst p.snd] [])) λq s r t=>G8 (some b) (cB (some b) (O (.call 29) [Ja q s r t] [])) λn=>some [Jb (bif b then decide (n > 0) else false),Ji 0,Ji 0]):=by kernel_rfl
end Go.Aev.Wd.Lg
namespace Go.Aev.Gen
open Go Go.Aev
structure fM (n:Nat) (r:R):Prop where
 e:r.e=true->r.of= []
 kd:r.kd=1\/r.kd=2\/r.kd=3
 len:r.of.length<=n
 of:Bd 1000000 r.of
 tv: -1000000<=r.tv/\r.tv<=1000000
theorem DG:∀{l:List Int} {i:Nat},(kW l i).1=0->∀x∈l, -1000000<=x/\x<=1000000
 | [],_,_,x,a=>by cases a
 | y::l,i,h,x,a=>by
  rw [kW] at h;split at h
  .rename_i hy;rcases RC.1 a with rfl | a
   .exact hy
   .exact DG h x a
  .simp at h
theorem J7{n:Nat}{r:R}(a:r.e=true->r.of= [])(h:(kX n r).1=0):fM n r:=by
 unfold kX at h;split at h
 .simp at h
 .rename_i c;split at h
  .simp at h
  .have:=DG h;exact⟨a,by omega,by omega,λx b=>this x (RD _ b),this r.tv (by simp)⟩
theorem DJ{n:Nat}:∀{rows:List R} {i:Nat},(∀r∈rows,r.e=true->r.of= [])->(mL n rows i).1=0->∀r∈rows,fM n r
 | [],_,_,_,r,a=>by cases a
 | q::rows,i,c,h,r,a=>by
  rw [mL] at h;split at h
  .rename_i b;rcases RC.1 a with rfl | a
   .exact J7 (c _ Rs) b
   .exact DJ (λr a=>c r (Ru _ a)) h r a
  .rename_i b;exact absurd h b
def l0(n:Int)(rows:List R):Int×Int:=if n < 0\/n > 12 then(3, -1) else sY n.toNat rows
theorem Pa(rows:List R)(e:Bool)(n:Int)(a:∀r∈rows,r.e=true->r.of= []):Or (.call 30) [LR e rows,I n] []=fl (l0 n rows):=by
 unfold l0;by_cases h:n < 0\/n > 12
 .rw [if_pos h];refine ao ?_;rw [Et];simp only [kf,<-Tg];simp only [al,↓reduceIte,Int.reduceBEq,Int.reduceEq,GD,h]
 .rw [if_neg h];have:=Pb rows n.toNat e (by omega) a;rw [Int.toNat_of_nonneg (by omega)] at this;exact this
theorem DI{n:Int}{rows:List R}(a:∀r∈rows,r.e=true->r.of= [])(h:(l0 n rows).1=0): 0<=n/\n<=12/\rows.length<=40/\∀r∈rows,fM n.toNat r:=by
 unfold l0 at h;split at h
 .simp at h
 .unfold sY at h;split at h
  .simp at h
  .exact⟨by omega,by omega,by omega,DJ a h⟩
end Go.Aev.Gen
namespace Go.Aev.Wd.Lg
open Go Go.Aev Go.Aev.Gen Go.Aev.Wd
open Go Go.Aev Go.Aev.Gen Go.Aev.Wd Go.Aev.Tb
def fa:List R->Nat->Int×Int
 | [],_=>(0,0)
 | r::a,i=>if r.kd=2 then(4,(i:Int)) else fa a (i+1)
def eQ:List Int->Nat->Int×Int
 | [],_=>(0,0)
 | x::xs,i=>if -1000000<=x/\x<=1000000 then eQ xs (i+1) else(5,(i:Int))
def eF(n:Int)(rows:List R)(gl:List Int):Int×Int:=
 if(l0 n rows).1≠0 then l0 n rows else if(fa rows 0).1≠0 then fa rows 0 else if(gl.length:Int) > n then(9,0) else eQ gl 0
theorem F5:∀{rows:List R} {i:Nat},(fa rows i).1=0->∀r∈rows,r.kd≠2
 | [],_,_,r,a=>by cases a
 | q::rows,i,h,r,a=>by
  rw [fa] at h;split at h
  .simp at h
  .rename_i b;rcases RC.1 a with rfl | a
   .exact b
   .exact F5 h r a
theorem FN:∀{gl:List Int} {i:Nat},(eQ gl i).1=0->∀c∈gl, -1000000<=c/\c<=1000000
 | [],_,_,r,a=>by cases a
 | q::rows,i,h,r,a=>by
  rw [eQ] at h;split at h
  .rename_i b;rcases RC.1 a with rfl | a
   .exact b
   .exact FN h r a
  .simp at h
theorem AH:∀(gl:List Int) (i:Nat),(eQ gl i).1=0->eQ gl i= (0,0)
 | [],_,_=>rfl
 | q::rows,i,h=>by
  rw [eQ] at h⊢;split
  .rename_i a;rw [if_pos a] at h;exact AH rows _ h
  .rename_i a;rw [if_neg a] at h;simp at h
theorem QE(er:Bool)(rows:List R)(p:rows.length<=1000):∀(a:List R) (i:Nat),rows.drop i=a->
  Or nX [LR er rows,AV.fn 32 [] [],I (rows.length:Int),I (i:Int)] []=some [ti (if(fa a i).1=0 then -1 else(fa a i).2)]:=by
 intro a;induction a with
 | nil=>
  intro i h;have h1:¬(i:Int) < (rows.length:Int):=by have:=bP h;omega
  refine ao ?_;rw [Af];simp only [al,↓reduceIte,Int.reduceBEq,Int.reduceEq,GD,h1,fa]
 | cons r a m=>
  intro i h;obtain⟨g,o,l⟩:=bG h;have h1:(i:Int) < (rows.length:Int):=by omega
  have j: 0<=(i:Int):=by omega
  have f:Or (.call 32) [AV.agg [ae r.e r.of,I r.kd,I r.tv]] []=some [tb (r.kd==2)]:=ao (by rw [LJ]);have:=m (i+1) l;by_cases b:r.kd=2
  .have d:fa (r::a) i= (4,(i:Int)):=by rw [fa,if_pos b]
   have k:¬(4:Int)=0:=by decide
   have c:(r.kd==2)=true:=by simpa using b
   rw [d];rw [c] at f;refine ao ?_;rw [Af];simp only [al,↓reduceIte,Int.reduceBEq,Int.reduceEq,GD,h1,j,and_self,cu,gy g,f,k]
  .have d:fa (r::a) i=fa a (i+1):=by rw [fa,if_neg b]
   have c:(r.kd==2)=false:=by simpa using b
   rw [d];refine ao ?_;rw [Af];simp only [al,↓reduceIte,Int.reduceBEq,Int.reduceEq,GD,h1,j,and_self,cu,gy g,f,c,b,next i (by omega)];exact this
theorem QF(el:Bool)(gl:List Int)(q:gl.length<=1000):∀(c:List Int) (i:Nat),gl.drop i=c->
  Or uW [ae el gl,AV.fn 34 [] [],I (gl.length:Int),I (i:Int)] []=some [ti (if(eQ c i).1=0 then -1 else(eQ c i).2)]:=by
 intro c;induction c with
 | nil=>
  intro i h;have h1:¬(i:Int) < (gl.length:Int):=by have:=bP h;omega
  refine ao ?_;rw [zX];simp only [al,↓reduceIte,Int.reduceBEq,Int.reduceEq,GD,h1,eQ]
 | cons r c o=>
  intro i h;obtain⟨g,p,m⟩:=bG h;have h1:(i:Int) < (gl.length:Int):=by omega
  have j: 0<=(i:Int):=by omega
  have:=o (i+1) m;by_cases l: -1000000<=r/\r<=1000000
  .have f:Or (.call 34) [I r] []=some [tb false]:=ao (by
    rw [E7];have a:¬r < -1000000:=by omega
    have b:¬r > 1000000:=by omega
    simp only [sW,a,b,if_false,decide_false,we])
   have d:eQ (r::c) i=eQ c (i+1):=by rw [eQ,if_pos l]
   rw [d];refine ao ?_;rw [zX];simp only [al,↓reduceIte,Int.reduceBEq,Int.reduceEq,GD,h1,j,and_self,dC,jB g,f,next i (by omega)];exact this
  .have f:Or (.call 34) [I r] []=some [tb true]:=ao (by
    rw [E7];by_cases a:r < -1000000
    .simp only [sW,a,if_true,decide_true,zO]
    .have b:r > 1000000:=by omega
     simp only [sW,a,b,if_false,decide_true,decide_false,we])
   have d:eQ (r::c) i= (5,(i:Int)):=by rw [eQ,if_neg l]
   have k:¬(5:Int)=0:=by decide
   rw [d];refine ao ?_;rw [zX];simp only [al,↓reduceIte,Int.reduceBEq,Int.reduceEq,GD,h1,j,and_self,dC,jB g,f,k]
theorem MU(rows:List R):∀(i:Nat),(fa rows i).1=0\/((fa rows i).1=4/\(i:Int)<=(fa rows i).2):=by
 induction rows with
 | nil=>intro i;exact .inl rfl
 | cons r rows a=>
  intro i;rw [fa];split
  .exact .inr ⟨rfl,U5 _⟩
  .rcases a (i+1) with h | ⟨h,b⟩
   .exact .inl h
   .exact .inr ⟨h,by omega⟩
theorem MF(gl:List Int):∀(i:Nat),(eQ gl i).1=0\/((eQ gl i).1=5/\(i:Int)<=(eQ gl i).2):=by
 induction gl with
 | nil=>intro i;exact .inl rfl
 | cons r rows a=>
  intro i;rw [eQ];split
  .rcases a (i+1) with h | ⟨h,b⟩
   .exact .inl h
   .exact .inr ⟨h,by omega⟩
  .exact .inr ⟨rfl,U5 _⟩
theorem Cl(rows:List R)(er el:Bool)(n:Int)(gl:List Int)(k:∀r∈rows,r.e=true->r.of= []):Or (.call 11) [LR er rows,I n,ae el gl] []=fl (eF n rows gl):=by
 have c:=Pa rows er n k;unfold eF;by_cases h1:(l0 n rows).1=0
 .have o:=DI k h1;rw [if_neg (by omega)];have k2:Or (.call 31) [LR er rows,AV.fn 32 [] []] []=_:=ao (by rw [LH,cu];exact QE er rows (by omega) rows 0 rfl);rcases MU rows 0 with g | ⟨g,l⟩
  .rw [if_pos g] at k2;have b:¬(-1:Int)>=0:=by decide
   by_cases a:(gl.length:Int) > n
   .rw [if_neg (by omega),if_pos a];refine ao ?_;rw [th];simp only [al,↓reduceIte,Int.reduceBEq,Int.reduceEq,GD,c,h1,k2,b,dC,a]
   .have f:Or (.call 33) [ae el gl,AV.fn 34 [] []] []=_:=ao (by rw [Kx,dC];exact QF el gl (by omega) gl 0 rfl);rw [if_neg (by omega),if_neg a];rcases MF gl 0 with d | ⟨d,m⟩
    .rw [if_pos d] at f;rw [AH _ _ d];refine ao ?_;rw [th];simp only [al,↓reduceIte,Int.reduceBEq,Int.reduceEq,GD,c,h1,k2,b,dC,a,f]
    .rw [if_neg (by omega)] at f;have j:(eQ gl 0).2>=0:=by omega
     have h:eQ gl 0= (5,(eQ gl 0).2):=Uz d rfl;refine ao ?_;rw [th,h];simp only [al,↓reduceIte,Int.reduceBEq,Int.reduceEq,GD,c,h1,k2,b,dC,a,f,j]
  .rw [if_neg (by omega)] at k2;have i:(fa rows 0).2>=0:=by omega
   have h:fa rows 0= (4,(fa rows 0).2):=Uz g rfl;rw [if_pos (by omega)];refine ao ?_;rw [th,h];simp only [al,↓reduceIte,Int.reduceBEq,Int.reduceEq,GD,c,h1,k2,i]
 .rw [if_pos h1];refine ao ?_;rw [th];simp only [al,↓reduceIte,Int.reduceBEq,Int.reduceEq,GD,c,h1]
theorem zK{n:Int}{rows:List R}{gl:List Int}(j:∀r∈rows,r.e=true->r.of= [])(h:(eF n rows gl).1=0):
  eF n rows gl= (0,0)/\0<=n/\n<=12/\rows.length<=40/\(∀r∈rows,fM n.toNat r)/\(∀r∈rows,r.kd≠2)/\(gl.length:Int)<=n/\∀c∈gl, -1000000<=c/\c<=1000000:=by
 unfold eF at h⊢;by_cases h1:(l0 n rows).1=0
 .rw [if_neg (by omega)] at h⊢;obtain⟨d,f,g,i⟩:=DI j h1;by_cases a:(fa rows 0).1=0
  .rw [if_neg (by omega)] at h⊢;by_cases b:(gl.length:Int) > n
   .rw [if_pos b] at h;simp at h
   .rw [if_neg b] at h⊢;exact⟨AH _ _ h,d,f,g,i,F5 a,by omega,FN h⟩
  .rw [if_pos a] at h;exact absurd h a
 .rw [if_pos h1] at h;exact absurd h h1
def fN(x:Fr):Nm:=some (aY x)
theorem xL{x:Fr}(h:mF x):Or (.call 27) [AV.agg [I x.1,I x.2]] []=some (NL (fN x)):=PZ x.1 x.2 (by unfold mF at h;omega) (by unfold mF at h;omega) (by unfold mF at h;omega)
theorem rf{x:Fr}(h:mF x):QN 30 (fN x):=Mq h.1 h.2
theorem QG(x:Fr):Or (.call 64) [AV.agg [I x.1,I x.2]] []=some [tb (!decide (bw x))]:=by
 have k:=BV x;refine ao ?_;rw [LL];by_cases h:bw x
 .rw [if_pos h] at k;simp only [al,↓reduceIte,Int.reduceBEq,Int.reduceEq,GD,k,h,decide_true]
  try rfl
 .rw [if_neg h] at k;simp only [al,↓reduceIte,Int.reduceBEq,Int.reduceEq,GD,k,h,decide_false]
  try rfl
theorem QV(e:Bool)(l:List Fr)(p:l.length<=1000):∀(a:List Fr) (i:Nat),l.drop i=a->∃z:Int,Or vL [LN e l,AV.fn 64 [] [],I (l.length:Int),I (i:Int)] []=some [ti z]/\(decide (z>=0)= !(a.all λx=>decide (bw x))):=by
 intro a;induction a with
 | nil=>
  intro i h;have h1:¬(i:Int) < (l.length:Int):=by have:=bP h;omega
  refine⟨-1,ao ?_,by simp⟩;rw [Ak];simp only [al,↓reduceIte,Int.reduceBEq,Int.reduceEq,GD,h1]
 | cons x a j=>
  intro i h;obtain⟨d,o,g⟩:=bG h;have h1:(i:Int) < (l.length:Int):=by omega
  have f: 0<=(i:Int):=by omega
  have c:=QG x;by_cases b:bw x
  .rw [decide_eq_true b] at c;obtain⟨z,k,m⟩:=j (i+1) g;refine⟨z,ao ?_,by rw [m];simp [b]⟩;rw [Ak];simp only [al,↓reduceIte,Int.reduceBEq,Int.reduceEq,GD,h1,f,and_self,fh,oa d,c,next i (by omega)];exact k
  .rw [decide_eq_false b] at c;refine⟨(i:Int),ao ?_,by simp [b]⟩;rw [Ak];simp only [al,↓reduceIte,Int.reduceBEq,Int.reduceEq,GD,h1,f,and_self,fh,oa d,c]
theorem yx(e:Bool)(l:List Fr)(a:l.length<=1000):Or (.call 24) [LN e l] []=some [tb (!(l.all λx=>decide (bw x)))]:=by obtain⟨z,c,d⟩:=QV e l a l 0 rfl;have b:Or (.call 97) [LN e l,AV.fn 64 [] []] []=some [ti z]:=ao (by rw [L9,fh];exact c);have k2:Or (.call 63) [LN e l,AV.fn 64 [] []] []=some [tb (decide (z>=0))]:=ao (by rw [LK];simp only [al,↓reduceIte,Int.reduceBEq,Int.reduceEq,GD,b]);refine ao ?_;rw [Lt];simp only [al,↓reduceIte,Int.reduceBEq,Int.reduceEq,GD,k2,d]
theorem Qg(e:Bool)(l:List Fr)(u:l.length<=1000)(p:∀x∈l,mF x):∀(b a:List Fr) (i:Nat),l.drop i=b->a.length=i->a++b=l->
  Or vC [AV.own (Id.c 0),LN e l,I (l.length:Int),I (i:Int)] [ab.sl false 4 (decide (a= [])) (aO (a.map fN))]=some [T.ae 4 (decide (l= [])) (aO (l.map fN))]:=by
 intro b;induction b with
 | nil=>
  intro a i h o d;have h1:¬(i:Int) < (l.length:Int):=by have:=bP h;omega
  rw [Sg] at d;subst d;refine ao ?_;rw [EX];simp only [al,↓reduceIte,Int.reduceBEq,Int.reduceEq,GD,h1]
 | cons x b q=>
  intro a i h o d;obtain⟨f,t,j⟩:=bG h;have h1:(i:Int) < (l.length:Int):=by omega
  have k: 0<=(i:Int):=by omega
  have r:=xL (p x (Rt f));have s:bY 48 ((aO (a.map fN)).length+ [[tb (decide ((nv (fN x)).num < 0)),T.str (bF (dz (nv (fN x)).num)),tb (nc (fN x)),T.str (nd (fN x))]].length)=some ():=lK (by rw [bA];simp;omega);have:=q (a++ [x]) (i+1) j (by simp;omega) (by simpa using d);have g:decide (a++ [x]= [])=false:=by simp
  have m:aO (a.map fN)++ [[tb (decide ((nv (fN x)).num < 0)),T.str (bF (dz (nv (fN x)).num)),tb (nc (fN x)),T.str (nd (fN x))]]=aO ((a++ [x]).map fN):=by rw [Lk,EJ,TC];rfl
  rw [g] at this;refine ao ?_;rw [EX];simp only [al,↓reduceIte,Int.reduceBEq,Int.reduceEq,GD,h1,k,and_self,fh,oa f,r,s,m,next i (by omega)];exact this
theorem Cn(e:Bool)(l:List Fr)(a:l.length<=1000)(b:∀x∈l,mF x):Or (.call 26) [LN e l] []=some [T.ae 4 (decide (l= [])) (aO (l.map fN))]:=by have:=Qg e l a b l [] 0 rfl rfl rfl;refine ao ?_;rw [Lw,fh];exact this
def bg:List Int->List Rat->Rat
 | c::of,x::xs=>(c:Rat) * x+bg of xs
 | _,_=>0
theorem qS(xs:List Rat):bg [] xs=0:=by cases xs <;> rfl
theorem Qf(eg e:Bool)(gl:List Int)(a:List Nm)(D:∀c∈gl, -1000000<=c/\c<=1000000)(M:gl.length<=a.length)(N:gl.length<=100){m:Nat}(E:∀x∈a,QN m x)(z:Nm):
  ∀(b:List Int) (i:Nat) (d:Nm) (k:Nat),gl.drop i=b->QN k d->k+ (m+21) * b.length<=6300->
  ∃y,Or vB [AV.t (T.ae 4 e (aO a)),r0,AV.ref (Id.c 1) 0,ae eg gl,I (gl.length:Int),I (i:Int)] [gT z,gT d]=some (NL y)/\nv y=nv d+bg b ((a.drop i).map nv)/\QN (k+ (m+21) * b.length) y:=by
 intro b;induction b with
 | nil=>
  intro i d k h g q;have h1:¬(i:Int) < (gl.length:Int):=by have:=bP h;omega
  refine⟨d,ao ?_,by rw [qS];grind,g.mono (by omega)⟩;rw [EW];simp only [al,↓reduceIte,Int.reduceBEq,Int.reduceEq,GD,h1]
 | cons c b F=>
  intro i d k h g q;obtain⟨p,L,w⟩:=bG h;rw [RP,U6,UO] at q;have h1:(i:Int) < (gl.length:Int):=by omega
  have A: 0<=(i:Int):=by omega
  have B:(i:Int) < (a.length:Int):=by omega
  have K:=D c (Rt p);have r:=fE c (by omega);have j:QN 20 (iN c):=dP (by omega);have f:=fW (l:=a) (i:=i) (by omega);have o:=E _ (Rt f);have u:=mo j o (by omega);have s:=oL (x:=d) (y:=tm (iN c) (an a i)) g (j.mul o) (by omega);obtain⟨y,G,H,J⟩:=F (i+1) (pl d (tm (iN c) (an a i))) (k+ (m+21)) w ((g.add (j.mul o)).mono (by omega)) (by omega);have C:(a.drop i).map nv=nv (an a i):: (a.drop (i+1)).map nv:=by
   have:a.drop i=an a i::a.drop (i+1):=by rw [Ta (by omega)];congr 1;rw [Rv (by omega)] at f;exact R1 f
   rw [this];rfl
  refine⟨y,ao ?_, ?_,by rw [RP,U6,UO];exact J.mono (by omega)⟩
  .rw [EW];simp only [al,↓reduceIte,Int.reduceBEq,Int.reduceEq,GD,h1,A,B,and_self,dC,jB p,r,bA,cg f,u,s,next i (by omega)];exact G
  .rw [H,C,bg];show nv d+ (c:Rat) * nv (an a i)+ _=_;grind
theorem Cm(eg e:Bool)(gl:List Int)(a:List Nm)(b:∀c∈gl, -1000000<=c/\c<=1000000)(d:gl.length<=a.length)(f:gl.length<=12){m:Nat}(g:∀x∈a,QN m x)(hm:m<=400):
  ∃y,Or (.call 16) [ae eg gl,AV.t (T.ae 4 e (aO a))] []=some (NL y)/\nv y=bg gl (a.map nv)/\QN 6000 y:=by
 have hb:(m+21) * gl.length<=(m+21) * 12:=Nat.mul_le_mul_left _ f;obtain⟨y,h,i,j⟩:=Qf eg e gl a b d (by omega) g none gl 0 none 0 rfl (hY 0) (by omega);refine⟨y,ao ?_,by rw [i,rJ,UG];grind,j.mono (by omega)⟩;rw [Lv,dC];exact h
theorem Qb(er e:Bool)(of:List Int)(l:List Fr)(hb:∀c∈of, -1000000<=c/\c<=1000000)(C:∀x∈l,mF x)(K:of.length<=l.length)(L:of.length<=12)(z:Nm):
  ∀(a:List Int) (i:Nat) (b:Nm) (k:Nat),of.drop i=a->QN k b->k+51 * a.length<=6300->
  ∃y,Or yY [LN e l,r0,AV.ref (Id.c 1) 0,ae er of,I (of.length:Int),I (i:Int)] [gT z,gT b]=some (NL y)/\nv y=nv b+bg a ((l.drop i).map aY)/\QN (k+51 * a.length) y:=by
 intro a;induction a with
 | nil=>
  intro i b k h f p;have h1:¬(i:Int) < (of.length:Int):=by have:=bP h;omega
  refine⟨b,ao ?_,by rw [qS];grind,f.mono (by omega)⟩;rw [ET];simp only [al,↓reduceIte,Int.reduceBEq,Int.reduceEq,GD,h1]
 | cons c a D=>
  intro i b k h f p;obtain⟨o,J,u⟩:=bG h;rw [RP,U6,UO] at p;have h1:(i:Int) < (of.length:Int):=by omega
  have w: 0<=(i:Int):=by omega
  have A:(i:Int) < (l.length:Int):=by omega
  have H:=hb c (Rt o);have r:=fE c (by omega);have j:QN 20 (iN c):=dP (by omega);obtain⟨x,d⟩:∃x,l[i]? =some x:=⟨_,Rv (by omega)⟩;have g:=C x (Rt d);have q:=xL g;have m:=rf g;have t:=mo j m (by omega);have s:=oL (x:=b) (y:=tm (iN c) (fN x)) f (j.mul m) (by omega);obtain⟨y,E,F,G⟩:=D (i+1) (pl b (tm (iN c) (fN x))) (k+51) u ((f.add (j.mul m)).mono (by omega)) (by omega);have B:(l.drop i).map aY=aY x:: (l.drop (i+1)).map aY:=by
   have:l.drop i=x::l.drop (i+1):=by rw [Ta (by omega)];congr 1;rw [Rv (by omega)] at d;exact R1 d
   rw [this];rfl
  refine⟨y,ao ?_, ?_,by rw [RP,U6,UO];exact G.mono (by omega)⟩
  .rw [ET];simp only [al,↓reduceIte,Int.reduceBEq,Int.reduceEq,GD,h1,w,A,and_self,dC,jB o,r,fh,oa d,q,t,s,next i (by omega)];exact E
  .rw [F,B,bg];show nv b+ (c:Rat) * aY x+ _=_;grind
theorem QU(r:R)(n:Nat)(d:n<=12)(ok:fM n r):Or (.call 53) [AV.agg [ae r.e r.of,I r.kd,I r.tv],I (n:Int)] []=some [ti 0,ti 0]:=by
 have b:=H5 r n d ok.e;have c:kX n r= (0,0):=by
  have h1:=ok.kd;have g:=ok.len;unfold kX;rw [if_neg (by omega),if_neg (by omega)];have:∀(m:List Int) (i:Nat),(∀x∈m, -1000000<=x/\x<=1000000)->kW m i= (0,0):=by
   intro m;induction m with
   | nil=>intro i _;rfl
   | cons y m f=>intro i h;rw [kW,if_pos (h y Rs)];exact f _ λx a=>h x (Ru _ a)
  refine this _ 0 λx a=> ?_;rcases RM.1 a with a | a
  .exact ok.of x a
  .rw [RF.1 a];exact ok.tv
 rw [c] at b;exact b
theorem Qa(e:Bool)(l:List Fr)(m:l.length<=100)(g:∀x∈l,bw x):∀(a:List Fr) (i:Nat),l.drop i=a->Or vA [r0,LN e l,I (l.length:Int),I (i:Int)] [ab.box [I 0,I 0]]=some [ti 0,ti 0]:=by
 intro a;induction a with
 | nil=>
  intro i h;have h1:¬(i:Int) < (l.length:Int):=by have:=bP h;omega
  refine ao ?_;rw [ES];simp only [al,↓reduceIte,Int.reduceBEq,Int.reduceEq,GD,h1]
 | cons x a j=>
  intro i h;obtain⟨b,k,d⟩:=bG h;have h1:(i:Int) < (l.length:Int):=by omega
  have f: 0<=(i:Int):=by omega
  have c:=BV x;rw [if_pos (g x (Rt b))] at c;refine ao ?_;rw [ES];simp only [al,↓reduceIte,Int.reduceBEq,Int.reduceEq,GD,h1,f,and_self,fh,oa b,c,next i (by omega)];exact j (i+1) d
def ez(r:R)(q:Rat):Bool:=if r.kd=1 then decide (q<=(r.tv:Rat)) else if r.kd=2 then decide (q < (r.tv:Rat)) else decide (q= (r.tv:Rat))
theorem IY(r:R)(e:Bool)(l:List Fr)(B:l.length<=12)(ok:fM l.length r)(p:∀x∈l,bw x):
  Or (.call 7) [AV.agg [ae r.e r.of,I r.kd,I r.tv],LN e l] []=some [tb (ez r (bg r.of (l.map aY))),ti 0,ti 0]:=by
 have q:=QU r l.length B ok;have i:=Qa e l (by omega) p l 0 rfl;have a:Or (.call 19) [AV.agg [ae r.e r.of,I r.kd,I r.tv],LN e l] []=some [ti 0,ti 0]:=by refine ao ?_;rw [Lp];simp only [al,↓reduceIte,Int.reduceBEq,Int.reduceEq,GD,fh,q];exact i
 have A:=ok.len;have F:=ok.tv;obtain⟨y,C,D,E⟩:=Qb r.e e r.of l ok.of (λx h=>(p x h).b) ok.len (by omega) none r.of 0 none 0 rfl (hY 0) (by omega);have c:Or (.call 20) [AV.agg [ae r.e r.of,I r.kd,I r.tv],LN e l] []=some (NL y):=ao (by rw [Lq,dC];exact C);have f:=fE r.tv (by omega);have d:=oZ (x:=y) (y:=iN r.tv) (m:=0+51 * r.of.length) (k:=20) E (dP (by omega)) (by omega);have hy:nv y=bg r.of (l.map aY):=by rw [D,rJ,UG];grind
 have hv:nv (iN r.tv)= (r.tv:Rat):=rfl;rw [hy,hv] at d;have s:=sZ (bg r.of (l.map aY)) (r.tv:Rat);have t:=jx (bg r.of (l.map aY)) (r.tv:Rat);have o:=zM (bg r.of (l.map aY)) (r.tv:Rat);have u:decide (cq (bg r.of (l.map aY)) (r.tv:Rat)<=0)=decide (bg r.of (l.map aY)<=(r.tv:Rat)):=by refine decide_eq_decide.2 ⟨λh=>Vg.1 λj=>by have:=o.2 j;omega,λh=>Int.not_lt.1 λj=>by have:=o.1 j;grind⟩
 have w:decide (cq (bg r.of (l.map aY)) (r.tv:Rat) < 0)=decide (bg r.of (l.map aY) < (r.tv:Rat)):=decide_eq_decide.2 s;have z:(cq (bg r.of (l.map aY)) (r.tv:Rat)==0)=decide (bg r.of (l.map aY)= (r.tv:Rat)):=by rw [sU];exact decide_eq_decide.2 t
 unfold ez;by_cases h1:r.kd=1
 .rw [if_pos h1];refine ao ?_;rw [Ah];simp only [al,↓reduceIte,Int.reduceBEq,Int.reduceEq,GD,a,c,f,d];rw [if_pos h1,u]
 .by_cases g:r.kd=2
  .rw [if_neg h1,if_pos g];refine ao ?_;rw [Ah];simp only [al,↓reduceIte,Int.reduceBEq,Int.reduceEq,GD,a,c,f,d];rw [if_neg h1,if_pos g,w]
  .rw [if_neg h1,if_neg g];refine ao ?_;rw [Ah];simp only [al,↓reduceIte,Int.reduceBEq,Int.reduceEq,GD,a,c,f,d];rw [if_neg h1,if_neg g,z]
theorem QH(er:Bool)(rows:List R)(e:Bool)(l:List Fr)(j:l.length<=12)(ok:∀r∈rows,fM l.length r)(k:∀x∈l,bw x)(s:rows.length<=40):
  ∀(a:List R) (i:Nat),rows.drop i=a->∃z:Int,Or nX [LR er rows,AV.fn 66 [] [AV.t (T.ptr [T.ae 2 e (dN l)])],I (rows.length:Int),I (i:Int)] []=some [ti z]/\(decide (z>=0)= !(a.all λr=>ez r (bg r.of (l.map aY)))):=by
 intro a;induction a with
 | nil=>
  intro i h;have h1:¬(i:Int) < (rows.length:Int):=by have:=bP h;omega
  refine⟨-1,ao ?_,by simp⟩;rw [Ag];simp only [al,↓reduceIte,Int.reduceBEq,Int.reduceEq,GD,h1]
 | cons r a m=>
  intro i h;obtain⟨c,q,g⟩:=bG h;have h1:(i:Int) < (rows.length:Int):=by omega
  have d: 0<=(i:Int):=by omega
  have f:=IY r e l j (ok r (Rt c)) k;have b:Or (.call 66) [AV.agg [ae r.e r.of,I r.kd,I r.tv],AV.t (T.ptr [T.ae 2 e (dN l)])] []=some [tb (!(ez r (bg r.of (l.map aY))))]:=ao (by rw [LO];simp only [al,↓reduceIte,Int.reduceBEq,Int.reduceEq,GD,f]);cases hb:ez r (bg r.of (l.map aY))
  .rw [hb] at b;refine⟨(i:Int),ao ?_,by simp [hb]⟩;rw [Ag];simp only [al,↓reduceIte,Int.reduceBEq,Int.reduceEq,GD,h1,d,and_self,cu,gy c,b]
  .rw [hb] at b;obtain⟨z,o,p⟩:=m (i+1) g;refine⟨z,ao ?_,by rw [p];simp [hb]⟩;rw [Ag];simp only [al,↓reduceIte,Int.reduceBEq,Int.reduceEq,GD,h1,d,and_self,cu,gy c,b,next i (by omega)];exact o
theorem IX(er:Bool)(rows:List R)(e:Bool)(l:List Fr)(b:l.length<=12)(ok:∀r∈rows,fM l.length r)(c:∀x∈l,bw x)(a:rows.length<=40):
  Or (.call 25) [LR er rows,LN e l] []=some [tb (rows.all λr=>ez r (bg r.of (l.map aY)))]:=by
 obtain⟨z,f,g⟩:=QH er rows e l b ok c a rows 0 rfl;have d:Or (.call 31) [LR er rows,AV.fn 66 [] [AV.t (T.ptr [T.ae 2 e (dN l)])]] []=some [ti z]:=ao (by rw [LI,cu];exact f);have k2:Or (.call 65) [LR er rows,AV.fn 66 [] [AV.t (T.ptr [T.ae 2 e (dN l)])]] []=some [tb (decide (z>=0))]:=ao (by rw [LM];simp only [al,↓reduceIte,Int.reduceBEq,Int.reduceEq,GD,d]);refine ao ?_;rw [Lu];simp only [al,↓reduceIte,Int.reduceBEq,Int.reduceEq,GD,k2,g,Bool.not_not]
open Go Go.Aev Go.Aev.Gen Go.Aev.Wd Go.Aev.Tb
def gv(t:Nm):List Int->List Nm->List Nm
 | c::cs,g::a=>pl g (tm (iN c) t)::gv t cs a
 | _,a=>a
def fA:List R->List Nm->List Nm×Nm->List Nm×Nm
 | r::a,x::xs,p=>fA a xs (gv x r.of p.1,pl p.2 (tm (iN r.tv) x))
 | _,_,p=>p
theorem zj(t:Nm):∀(c:List Int) (g:List Nm),(gv t c g).length=g.length
 | [],_=>by simp [gv]
 | _::_,[]=>by simp [gv]
 | c::cs,g::a=>by simp [gv,zj t cs a]
theorem CX{m k:Nat}{t:Nm}(f:QN k t):∀(c:List Int) (g:List Nm),(∀x∈c, -1000000<=x/\x<=1000000)->(∀x∈g,QN m x)->∀x∈gv t c g,QN (m+ (20+k)+1) x
 | [],g,_,b=>by intro x a;simp [gv] at a;exact(b x a).mono (by omega)
 | _::_,[],_,_=>by intro x a;simp [gv] at a
 | c::cs,g::i,d,b=>by
  intro x a;rw [gv] at a;have l:=d c Rs;have j:QN 20 (iN c):=dP (by omega);rcases RC.1 a with rfl | a
  .exact(b g Rs).add (j.mul f)
  .exact CX f cs i (λx h=>d x (Ru _ h)) (λx h=>b x (Ru _ h)) x a
theorem CY(t:Nm):∀(c:List Int) (g:List Nm) (k:Nat),k < g.length->nv (an (gv t c g) k)=nv (an g k)+ ((c.getD k 0:Int):Rat) * nv t
 | [],g,k,_=>by show nv (an g k)=nv (an g k)+ ((0:Int):Rat) * nv t;have:((0:Int):Rat)=0:=rfl;rw [this];grind
 | _::_,[],k,h=>by simp at h
 | c::cs,g::a,0,_=>rfl
 | c::cs,g::a,k+1,h=>CY t cs a k (by simpa using h)
section
variable (er e:Bool) (rows:List R) (ts:List Nm) {n:Nat}
theorem Qi{mt mg:Nat}(Z:n<=12)(hm:rows.length<=40)(V:rows.length<=ts.length)(O:∀x∈ts,QN mt x){i:Nat}(hi:i < rows.length)(ok:fM n (aW rows i))(s:(aW rows i).kd≠2)(z:Nm){to:Nm}(L:QN mg to)
  (hs:mg+ (20+mt)+1<=6300) {res:List T} {D:List Nm}
  (C:Or vD [AV.t (T.ae 4 e (aO ts)),r0,AV.own (Id.c 1),AV.ref (Id.c 2) 0,B false,LR er rows,I (rows.length:Int),I ((i+1:Nat):Int)] [gT z,ab.sl false 4 false (aO D),gT (pl to (tm (iN (aW rows i).tv) (an ts i)))]=some res):
  ∀(d:List Int) (a b:List Nm) (j:Nat),(aW rows i).of.drop j=d->b.length=j->d.length<=a.length->(∀y∈a,QN mg y)->b++gv (an ts i) d a=D->
  Or yZ [AV.t (T.ae 4 e (aO ts)),r0,AV.own (Id.c 1),AV.ref (Id.c 2) 0,B false,I (i:Int),AV.ref (Id.c 3) 0,LR er rows,I (rows.length:Int),I (i:Int),ae (aW rows i).e (aW rows i).of,I ((aW rows i).of.length:Int),I (j:Int)]
   [gT z,ab.sl false 4 false (aO (b++a)),gT to,ab.box [ae (aW rows i).e (aW rows i).of,I (aW rows i).kd,I (aW rows i).tv]]=some res:=by
 have f:=fW (l:=ts) (i:=i) (by omega);have q:=O _ (Rt f);have r: 0<=(i:Int)/\(i:Int) < (ts.length:Int):=by omega
 have W:=ok.len;intro d;induction d with
 | nil=>
  intro a b j h w A hy p;have h1:¬(j:Int) < ((aW rows i).of.length:Int):=by have:=bP h;omega
  have F:gv (an ts i) [] a=a:=rfl;rw [F] at p;have X:=ok.tv;have g:=fE (aW rows i).tv (by omega);have o:QN 20 (iN (aW rows i).tv):=dP (by omega);have m:=mo o q (by omega);have k:=oL (x:=to) (y:=tm (iN (aW rows i).tv) (an ts i)) L (o.mul q) hs;have K:((aW rows i).kd==2)=false:=by simpa using s
  rw [p];refine ao ?_;rw [EZ];simp only [cm,al,↓reduceIte,Int.reduceBEq,Int.reduceEq,GD,h1,g,r,and_self,bA,cg f,m,k,K,s,RQ,Sd,next i (by omega)];exact C
 | cons c d Q=>
  intro a b j h w A hy p;obtain⟨E,Y,N⟩:=bG h;cases a with
  | nil=>simp at A
  | cons y a=>
   have h1:(j:Int) < ((aW rows i).of.length:Int):=by omega
   have H: 0<=(j:Int):=by omega
   have J:(j:Int) < ((b++y::a).length:Int):=by simp;omega
   have G:(b++y::a)[j]? =some y:=by rw [Sp (by omega),w,TU];rfl
   have U:=ok.of c (Rt E);have g:=fE c (by omega);have o:QN 20 (iN c):=dP (by omega);have S:=hy y Rs;have m:=mo o q (by omega);have k:=oL (x:=y) (y:=tm (iN c) (an ts i)) S (o.mul q) hs;have M:=jA (l:=b++y::a) (i:=j) (by omega) (pl y (tm (iN c) (an ts i)));rw [pZ _ _ _ _ _ w] at M;have:=Q a (b++ [pl y (tm (iN c) (an ts i))]) (j+1) N (by simp;omega) (by simpa using A) (λu P=>hy u (Ru _ P)) (by rw [<-p];simp [gv]);simp only [R6,Rx,Ry] at this;refine ao ?_;rw [EZ];simp only [al,↓reduceIte,Int.reduceBEq,Int.reduceEq,GD,h1,H,J,r,and_self,dC,jB E,bA,cg G,cg f,g,m,k,M,next j (by omega)];exact this
theorem Qj{mt:Nat}(L:n<=12)(hm:rows.length<=40)(Q:rows.length=ts.length)(A:∀x∈ts,QN mt x)(ok:∀r∈rows,fM n r)(w:∀r∈rows,r.kd≠2)(z:Nm):
  ∀(a:List R) (xs:List Nm) (i mg:Nat) (c:List Nm) (to:Nm),rows.drop i=a->ts.drop i=xs->c.length=n->(∀y∈c,QN mg y)->QN mg to->mg+ (mt+21) * a.length<=6300->
  Or vD [AV.t (T.ae 4 e (aO ts)),r0,AV.own (Id.c 1),AV.ref (Id.c 2) 0,B false,LR er rows,I (rows.length:Int),I (i:Int)] [gT z,ab.sl false 4 false (aO c),gT to]=
   some (T.ae 4 false (aO (fA a xs (c,to)).1):: (NL (fA a xs (c,to)).2++ [tb false]))/\
  (∀y∈(fA a xs (c,to)).1,QN (mg+ (mt+21) * a.length) y)/\QN (mg+ (mt+21) * a.length) (fA a xs (c,to)).2/\(fA a xs (c,to)).1.length=n:=by
 intro a;induction a with
 | nil=>
  intro xs i mg c to h p o d f hs;have h1:¬(i:Int) < (rows.length:Int):=by have:=bP h;omega
  have s:fA [] xs (c,to)= (c,to):=rfl;rw [s];refine⟨ao ?_,λy hy=>(d y hy).mono (by omega),f.mono (by omega),o⟩;rw [EY];simp only [al,↓reduceIte,Int.reduceBEq,Int.reduceEq,GD,h1];rfl
 | cons r a M=>
  intro xs i mg c to h p o d f hs;obtain⟨m,U,H⟩:=bG h;rw [RP,U6,UO] at hs⊢;cases xs with
  | nil=>have:=bP p;omega
  | cons x xs=>
   obtain⟨D,x2,P⟩:=bG p;have h1:(i:Int) < (rows.length:Int):=by omega
   have J: 0<=(i:Int):=by omega
   have b:aW rows i=r:=by have:=oT (rows:=rows) (i:=i) (by omega);rw [m] at this;exact(R1 this).symm
   have k:an ts i=x:=by have:=fW (l:=ts) (i:=i) (by omega);rw [D] at this;exact(R1 this).symm
   have j:=Rt m;have g:=ok r j;have C:=A x (Rt D);have S:=g.tv;have O:QN 20 (iN r.tv):=dP (by omega);have N:∀y∈gv x r.of c,QN (mg+ (mt+21)) y:=λy hy=>(CX C r.of c g.of d y hy).mono (by omega);have q3:QN (mg+ (mt+21)) (pl to (tm (iN r.tv) x)):=(f.add (O.mul C)).mono (by omega);obtain⟨q,E,F,G⟩:=M xs (i+1) (mg+ (mt+21)) (gv x r.of c) (pl to (tm (iN r.tv) x)) H P (by rw [zj];exact o) N q3 (by omega);have u:fA (r::a) (x::xs) (c,to)=fA a xs (gv x r.of c,pl to (tm (iN r.tv) x)):=rfl;rw [u];refine⟨ao ?_,λy hy=>(E y hy).mono (by omega),F.mono (by omega),G⟩;have K:=g.len;rw [<-b,<-k] at q;have:=Qi er e rows ts (n:=n) L hm (by omega) A (i:=i) (by omega) (by rw [b];exact g) (by rw [b];exact w r j) z f (mg:=mg) (by omega) q (aW rows i).of c [] 0 rfl rfl (by rw [b];omega) d rfl;rw [b,k] at this;simp only [Ry] at this;rw [EY];simp only [al,↓reduceIte,Int.reduceBEq,Int.reduceEq,GD,h1,J,and_self,cu,gy m,dC];exact this
theorem Qh{mt:Nat}(j:n<=12)(hm:rows.length<=40)(b:rows.length=ts.length)(l:∀x∈ts,QN mt x)(ok:∀r∈rows,fM n r)(a:∀r∈rows,r.kd≠2)(hs:mt<=130):
  Or (.call 28) [LR er rows,I (n:Int),AV.t (T.ae 4 e (aO ts))] []=
   some (T.ae 4 false (aO (fA rows ts (List.replicate n none,none)).1):: (NL (fA rows ts (List.replicate n none,none)).2++ [tb false]))/\
  (∀y∈(fA rows ts (List.replicate n none,none)).1,QN 6100 y)/\QN 6100 (fA rows ts (List.replicate n none,none)).2/\(fA rows ts (List.replicate n none,none)).1.length=n:=by
 have hb:(mt+21) * rows.length<=(130+21) * 40:=UD (by omega) hm;obtain⟨f,g,h,i⟩:=Qj er e rows ts (n:=n) j hm b l ok a none rows ts 0 0 (List.replicate n none) none rfl rfl (by simp) (λy hy=>by rw [Te hy];exact hY _) (hY _) (by omega);have c:=pP (k:=n) (by omega);have d:((n:Nat):Int).toNat=n:=by omega
 refine⟨ao ?_,λy hy=>(g y hy).mono (by omega),h.mono (by omega),i⟩;rw [Lx];simp only [al,↓reduceIte,Int.reduceBEq,Int.reduceEq,GD,c,d,qX,cu];exact f
end
def iG:List R->List Rat->Nat->Rat
 | r::a,t::ts,k=>((r.of.getD k 0:Int):Rat) * t+iG a ts k
 | _,_,_=>0
def kL:List R->List Rat->Rat
 | r::a,t::ts=>(r.tv:Rat) * t+kL a ts
 | _,_=>0
theorem DB:∀(a:List R) (xs:List Nm) (c:List Nm) (to:Nm) (k:Nat),k < c.length->nv (an (fA a xs (c,to)).1 k)=nv (an c k)+iG a (xs.map nv) k
 | [],xs,c,to,k,_=>by
  have:iG [] (xs.map nv) k=0:=by cases xs <;> rfl
  rw [this];show nv (an c k)=_;grind
 | r::a,[],c,to,k,_=>by show nv (an c k)=nv (an c k)+0;grind
 | r::a,x::xs,c,to,k,h=>by have b:fA (r::a) (x::xs) (c,to)=fA a xs (gv x r.of c,pl to (tm (iN r.tv) x)):=rfl;rw [b,DB a xs _ _ k (by rw [zj];exact h),CY _ _ _ _ h,RX,iG];grind
theorem DC:∀(a:List R) (xs:List Nm) (c:List Nm) (to:Nm),nv (fA a xs (c,to)).2=nv to+kL a (xs.map nv)
 | [],xs,c,to=>by
  have:kL [] (xs.map nv)=0:=by cases xs <;> rfl
  rw [this];show nv to=_;grind
 | r::a,[],c,to=>by show nv to=nv to+0;grind
 | r::a,x::xs,c,to=>by have b:fA (r::a) (x::xs) (c,to)=fA a xs (gv x r.of c,pl to (tm (iN r.tv) x)):=rfl;rw [b,DC a xs,RX,kL];show nv to+ (r.tv:Rat) * nv x+ _=_;grind
def iO:List R->List Fr->Bool
 | r::a,t::ts=> !(decide (r.kd=1) && decide (t.1 < 0)) && iO a ts
 | _,_=>true
def kF(n:Nat)(rows:List R)(gl:List Int)(v:Fr)(point times:List Fr):Bool:=
 (rows.all λr=>ez r (bg r.of (point.map aY))) && decide (bg gl (point.map aY)=aY v) && iO rows times &&
  ((List.range n).all λk=>decide (iG rows (times.map aY) k= ((gl.getD k 0:Int):Rat))) && decide (kL rows (times.map aY)=aY v)
def lP(n:Int)(rows:List R)(gl:List Int)(v:Fr)(point times:List Fr):Int×Int:=
 if(eF n rows gl).1≠0 then eF n rows gl else if(point.length:Int)≠n\/times.length≠rows.length then(9,0) else
 if(decide (bw v) && (point.all λx=>decide (bw x)) && (times.all λx=>decide (bw x)))=true then(0,0) else(5,0)
section
variable {n:Nat} (rows:List R) (er eg ep et:Bool) (gl:List Int) (v:Fr) (point times:List Fr)
theorem QS(hv:bw v)(S:n<=12)(O:gl.length<=n)(C:∀c∈gl, -1000000<=c/\c<=1000000)(a:List Nm)(to:Nm)(Q:a.length=n)(B:∀y∈a,QN 6100 y)(E:QN 6100 to):
  ∀(xs:List Nm) (k:Nat),a.drop k=xs->(∀y,Or sK [ae eg gl,r0,AV.ref (Id.c 1) 0,AV.ref (Id.c 2) 0,AV.t (T.ae 4 false (aO a)),I (n:Int),I (k:Int)] [ab.box [I v.1,I v.2],ab.box [I 0,I 0],gT to]=y->
   y=some [tb (((List.range' k (n - k)).all λj=>decide (nv (an a j)= ((gl.getD j 0:Int):Rat))) && decide (nv to=aY v)),ti 0,ti 0]):=by
 intro xs;induction xs with
 | nil=>
  intro k h y hy;have N:=bP h;have h1:¬(k:Int) < (n:Int):=by omega
  have G:=xL hv.b;have g:=oZ (x:=to) (y:=fN v) (m:=6100) (k:=30) E (rf hv.b) (by omega);have J:(cq (nv to) (nv (fN v))==0)=decide (nv to=aY v):=by rw [sU];exact decide_eq_decide.2 (jx _ _)
  have A:n - k=0:=by omega
  rw [<-hy,A];refine ao ?_;rw [tq];simp only [al,↓reduceIte,Int.reduceBEq,Int.reduceEq,GD,h1,G,g,J,List.range'_zero,List.all_nil]
 | cons x xs L=>
  intro k h y hy;obtain⟨r,P,K⟩:=bG h;have h1:(k:Int) < (n:Int):=by omega
  have s: 0<=(k:Int):=by omega
  have q:(k:Int) < (a.length:Int):=by omega
  have F:an a k=x:=by have:=fW (l:=a) (i:=k) (by omega);rw [r] at this;exact(R1 this).symm
  have u:=fE 0 (by omega);have A:List.range' k (n - k)=k::List.range' (k+1) (n - (k+1)):=by rw [show n - k= (n - (k+1))+1 by omega,Ui]
  have w:=L (k+1) K _ rfl;have H:=B x (Rt r);rw [<-hy,A,SZ,F];by_cases D:k < gl.length
  .have f:(k:Int) < (gl.length:Int):=by omega
   have p:gl[k]? =some (gl.getD k 0):=by rw [Rr,Rv D];rfl
   have M:=C _ (Rt p);have z:=fE (gl.getD k 0) (by omega);have g:=oZ (x:=x) (y:=iN (gl.getD k 0)) (m:=6100) (k:=20) H (dP (by omega)) (by omega);by_cases o:nv x= ((gl.getD k 0:Int):Rat)
   .have d:cq (nv x) (nv (iN (gl.getD k 0)))=0:=(jx _ _).2 o;rw [decide_eq_true o,S0];refine ao ?_;rw [tq];simp only [al,↓reduceIte,Int.reduceBEq,Int.reduceEq,GD,h1,s,q,f,and_self,bA,cg r,u,dC,jB p,z,g,d,next k (by omega)];exact w
   .have d:¬cq (nv x) (nv (iN (gl.getD k 0)))=0:=λh=>o ((jx _ _).1 h);rw [decide_eq_false o,Tf,Tf];refine ao ?_;rw [tq];simp only [al,↓reduceIte,Int.reduceBEq,Int.reduceEq,GD,h1,s,q,f,and_self,bA,cg r,u,dC,jB p,z,g,d]
  .have f:¬(k:Int) < (gl.length:Int):=by omega
   have p:gl.getD k 0=0:=by rw [Rr,Sh (by omega)];rfl
   have g:=oZ (x:=x) (y:=iN 0) (m:=6100) (k:=20) H (dP (by decide)) (by omega);rw [p];by_cases o:nv x= ((0:Int):Rat)
   .have d:cq (nv x) (nv (iN 0))=0:=(jx _ _).2 o;rw [decide_eq_true o,S0];refine ao ?_;rw [tq];simp only [al,↓reduceIte,Int.reduceBEq,Int.reduceEq,GD,h1,s,q,f,and_self,bA,cg r,u,dC,g,d,next k (by omega)];exact w
   .have d:¬cq (nv x) (nv (iN 0))=0:=λh=>o ((jx _ _).1 h);rw [decide_eq_false o,Tf,Tf];refine ao ?_;rw [tq];simp only [al,↓reduceIte,Int.reduceBEq,Int.reduceEq,GD,h1,s,q,f,and_self,bA,cg r,u,dC,g,d]
theorem QT(hv:bw v)(L:n<=12)(hm:rows.length<=40)(ok:∀r∈rows,fM n r)(K:∀r∈rows,r.kd≠2)(J:gl.length<=n)(H:∀c∈gl, -1000000<=c/\c<=1000000)(T:times.length=rows.length)(s:∀x∈times,bw x):
  ∀(d:List R) (ts:List Fr) (i:Nat),rows.drop i=d->times.drop i=ts->
  Or vK [LR er rows,I (n:Int),ae eg gl,LN et times,r0,AV.ref (Id.c 1) 0,LR er rows,I (rows.length:Int),I (i:Int)] [ab.box [I v.1,I v.2],ab.box [I 0,I 0]]=
   some [tb (iO d ts && ((List.range n).all λk=>decide (iG rows (times.map aY) k= ((gl.getD k 0:Int):Rat))) && decide (kL rows (times.map aY)=aY v)),ti 0,ti 0]:=by
 intro d;induction d with
 | nil=>
  intro ts i h E;have h1:¬(i:Int) < (rows.length:Int):=by have:=bP h;omega
  have o:iO [] ts=true:=by cases ts <;> rfl
  have N:=Cn et times (by omega) (λx F=>(s x F).b);have g:(times.map fN).map nv=times.map aY:=by rw [Ul];rfl
  obtain⟨q,q1,O,q3⟩:=Qh er (decide (times= [])) rows (times.map fN) (n:=n) (mt:=30) L hm (by simp;omega) (λx F=>by
   obtain⟨y,hy,rfl⟩:=RU.1 F;exact rf (s y hy).b) ok K (by omega)
  have u:=λk (a:k < n)=>DB rows (times.map fN) (List.replicate n none) none k (by simpa using a);have w:=DC rows (times.map fN) (List.replicate n none) none;rw [g] at w;generalize fA rows (times.map fN) (List.replicate n none,none)=m at q q1 O q3 u w;have:=QS (n:=n) eg gl v hv L J H m.1 m.2 q3 q1 O m.1 0 rfl _ rfl;have D:((List.range' 0 (n - 0)).all λj=>decide (nv (an m.1 j)= ((gl.getD j 0:Int):Rat)))= ((List.range n).all λk=>decide (iG rows (times.map aY) k= ((gl.getD k 0:Int):Rat))):=by
   rw [Sr,<-UK,Bool.eq_iff_iff,RK,RK];refine forall_congr' λk=> ?_;constructor
   .intro A a;have:=u k (Tp.1 a);have hz:nv (an (List.replicate n (none:Nm)) k)=0:=by
     unfold an;rw [Rr,Tj];split <;> rfl
    rw [hz,g,Vh] at this;rw [<-this];exact A a
   .intro A a;have:=u k (Tp.1 a);have hz:nv (an (List.replicate n (none:Nm)) k)=0:=by
     unfold an;rw [Rr,Tj];split <;> rfl
    rw [hz,g,Vh] at this;rw [this];exact A a
  have M:nv m.2=kL rows (times.map aY):=by rw [w,rJ,Vh]
  rw [D,M] at this;rw [o,S0];simp only [Rx,Ry] at q;refine ao ?_;rw [wT];simp only [al,↓reduceIte,Int.reduceBEq,Int.reduceEq,GD,h1,N,q,bA,q3];exact this
 | cons r d Q=>
  intro ts i h E;obtain⟨z,U,P⟩:=bG h;cases ts with
  | nil=>have:=bP E;omega
  | cons t ts=>
   obtain⟨G,V,S⟩:=bG E;have h1:(i:Int) < (rows.length:Int):=by omega
   have B: 0<=(i:Int):=by omega
   have C:(i:Int) < (times.length:Int):=by omega
   have p:=Q ts (i+1) P S;have o:iO (r::d) (t::ts)= (!(decide (r.kd=1) && decide (t.1 < 0)) && iO d ts):=rfl;rw [o];by_cases a:r.kd=1
   .have l:(r.kd==1)=true:=by simpa using a
    by_cases f:t.1 < 0
    .refine ao ?_;rw [wT];simp only [al,↓reduceIte,Int.reduceBEq,Int.reduceEq,GD,h1,B,C,and_self,cu,gy z,l,fh,oa G,f,decide_true];simp [a,f]
    .have e:(!(decide (r.kd=1) && decide (t.1 < 0)) && iO d ts)=iO d ts:=by simp [a,f]
     rw [e];refine ao ?_;rw [wT];simp only [al,↓reduceIte,Int.reduceBEq,Int.reduceEq,GD,h1,B,C,and_self,cu,gy z,l,fh,oa G,f,decide_false,next i (by omega)];split
     .exact p
     .exact p
   .have l:(r.kd==1)=false:=by simpa using a
    have e:(!(decide (r.kd=1) && decide (t.1 < 0)) && iO d ts)=iO d ts:=by simp [a]
    rw [e];refine ao ?_;rw [wT];simp only [al,↓reduceIte,Int.reduceBEq,Int.reduceEq,GD,h1,B,C,and_self,cu,gy z,l,a,fh,oa G,next i (by omega)];exact p
end
open Go Go.Aev Go.Aev.Gen Go.Aev.Wd Go.Aev.Tb
abbrev Av(v:Fr):AV:=AV.agg [I v.1,I v.2]
set_option maxRecDepth 10000 in
theorem u8(rows:List R)(er eg ep et:Bool)(n:Int)(gl:List Int)(v:Fr)(point times:List Fr)(P:∀r∈rows,r.e=true->r.of= []):
  Or (.call 9) [LR er rows,I n,ae eg gl,Av v,LN ep point,LN et times] []=
   some (if(lP n rows gl v point times).1=0 then [tb (kF n.toNat rows gl v point times),ti 0,ti 0] else [tb false,ti (lP n rows gl v point times).1,ti (lP n rows gl v point times).2]):=by
 have a:=Cl rows er eg n gl P;by_cases h1:(eF n rows gl).1=0
 .obtain⟨_,Y,Z,J,F,V,a6,K⟩:=zK P h1;obtain⟨n,rfl⟩:∃m:Nat,n= (m:Int):=⟨n.toNat,by omega⟩;simp only [R5] at F;by_cases L:(point.length:Int)≠(n:Int)\/times.length≠rows.length
  .have s:lP (n:Int) rows gl v point times= (9,0):=by unfold lP;rw [if_neg (by omega),if_pos L]
   have hb:(if(point.length:Int)= (n:Int) then !((times.length:Int)== (rows.length:Int)) else true)=true:=by
    by_cases M:(point.length:Int)= (n:Int)
    .rw [if_pos M];have:¬(times.length:Int)= (rows.length:Int):=by omega
     simpa using this
    .rw [if_neg M]
   rw [s];refine ao ?_;rw [od];simp only [al,↓reduceIte,Int.reduceBEq,Int.reduceEq,GD,a,h1,fh,cu,hb]
   try rfl
  .have W:point.length=n:=by omega
   have Q:times.length=rows.length:=by omega
   have hb:(if(point.length:Int)= (n:Int) then !((times.length:Int)== (rows.length:Int)) else true)=false:=by
    rw [if_pos (by omega)];have:(times.length:Int)= (rows.length:Int):=by omega
    simpa using this
   have c:Or (.call 24) [AV.t (T.ae 2 false [[ti v.1,ti v.2]])] []=some [tb (!([v].all λx=>decide (bw x)))]:=yx false [v] (by simp);have g:=yx ep point (by omega);have j:=yx et times (by omega);have w:([v].all λx=>decide (bw x))=decide (bw v):=by simp
   rw [w] at c;have s:lP (n:Int) rows gl v point times=if(decide (bw v) && (point.all λx=>decide (bw x)) && (times.all λx=>decide (bw x)))=true then(0,0) else(5,0):=by unfold lP;rw [if_neg (by omega),if_neg L]
   rw [s];cases p:decide (bw v)
   .rw [p] at c;refine ao ?_;rw [od];simp only [cm,al,↓reduceIte,Int.reduceBEq,Int.reduceEq,GD,a,h1,fh,cu,hb,c,RJ,RH,Tf]
    try rfl
   .rw [p] at c;cases l:point.all λx=>decide (bw x)
    .rw [l] at g;refine ao ?_;rw [od];simp only [cm,al,↓reduceIte,Int.reduceBEq,Int.reduceEq,GD,a,h1,fh,cu,hb,c,g,RJ,RH,Tf]
     try rfl
    .rw [l] at g;cases o:times.all λx=>decide (bw x)
     .rw [o] at j;refine ao ?_;rw [od];simp only [cm,al,↓reduceIte,Int.reduceBEq,Int.reduceEq,GD,a,h1,fh,cu,hb,c,g,j,RJ,RH,Tf]
      try rfl
     .rw [o] at j;have hv:bw v:=of_decide_eq_true p;have q:∀x∈point,bw x:=λx f=>of_decide_eq_true (RK.1 l x f);have S:∀x∈times,bw x:=λx f=>of_decide_eq_true (RK.1 o x f);have d:=IX er rows ep point (by omega) (by rw [W];exact F) q J;have C:=Cn ep point (by omega) (λx f=>(q x f).b);obtain⟨y,U,H,X⟩:=Cm eg (decide (point= [])) gl (point.map fN) K (by simp;omega) (by omega) (m:=30) (λx f=>by
       obtain⟨z,hz,rfl⟩:=RU.1 f;exact rf (q z hz).b) (by omega)
      have G:(point.map fN).map nv=point.map aY:=by rw [Ul];rfl
      rw [G] at H;have E:=xL hv.b;have D:=oZ (x:=y) (y:=fN v) (m:=6000) (k:=30) X (rf hv.b) (by omega);have A:=QT (n:=n) rows er eg et gl v times hv (by omega) J F V (by omega) K Q S rows times 0 rfl rfl;have B:kF n rows gl v point times= ((rows.all λr=>ez r (bg r.of (point.map aY))) && (decide (bg gl (point.map aY)=aY v) && (iO rows times && ((List.range n).all λk=>decide (iG rows (times.map aY) k= ((gl.getD k 0:Int):Rat))) && decide (kL rows (times.map aY)=aY v)))):=by unfold kF;simp only [VU]
      simp only [Bool.and_self,if_true];rw [R5,B];cases N:rows.all λr=>ez r (bg r.of (point.map aY))
      .rw [N] at d;refine ao ?_;rw [od];simp only [cm,al,↓reduceIte,Int.reduceBEq,Int.reduceEq,GD,a,h1,fh,cu,hb,c,g,j,d,RJ,RH,Tf]
      .rw [N] at d;by_cases u:bg gl (point.map aY)=aY v
       .have i:cq (nv y) (nv (fN v))=0:=(jx _ _).2 (by rw [H];exact u);rw [decide_eq_true u,S0,S0];refine ao ?_;rw [od];simp only [al,↓reduceIte,Int.reduceBEq,Int.reduceEq,GD,a,h1,fh,cu,hb,c,g,j,d,C,U,E,D,i,RJ,RH];exact A
       .have i:¬cq (nv y) (nv (fN v))=0:=λh=>u (by rw [<-H];exact(jx _ _).1 h);have O:(!(cq (nv y) (nv (fN v))==0))=true:=by simpa using i
        rw [decide_eq_false u,S0,Tf];refine ao ?_;rw [od];simp only [al,↓reduceIte,Int.reduceBEq,Int.reduceEq,GD,a,h1,fh,cu,hb,c,g,j,d,C,U,E,D,i,O,RJ,RH]
 .have s:lP n rows gl v point times=eF n rows gl:=by unfold lP;rw [if_pos h1]
  rw [s,if_neg h1];refine ao ?_;rw [od];simp only [al,↓reduceIte,Int.reduceBEq,Int.reduceEq,GD,a,h1]
def nL(r:R):R:={r with tv:=0}
def lQ(n:Int)(rows:List R)(gl:List Int)(point:List Fr):Int×Int:=
 if(eF n rows gl).1≠0 then eF n rows gl else if(point.length:Int)≠n then(9,0) else if(point.all λx=>decide (bw x))=true then(0,0) else(5,0)
def oP(rows:List R)(gl:List Int)(point:List Fr):Bool:=((rows.map nL).all λr=>ez r (bg r.of (point.map aY))) && decide (0 < bg gl (point.map aY))
theorem Ld(a b:List R):bX a++bX b=bX (a++b):=by simp [bX]
theorem QW(rows:List R)(er eg ep:Bool)(n:Nat)(gl:List Int)(point:List Fr)(Q:n<=12)(hm:rows.length<=40)(ok:∀r∈rows,fM n r)(N:gl.length<=n)(u:∀c∈gl, -1000000<=c/\c<=1000000)(G:point.length=n)(g:∀x∈point,bw x):
  ∀(d a:List R) (i:Nat),rows.drop i=d->a.length=i->a++d=rows->
  Or vM [ae eg gl,LN ep point,r0,AV.own (Id.c 1),LR er rows,I (rows.length:Int),I (i:Int)] [ab.box [I 0,I 0],ab.sl false 3 (decide (a= [])) (bX (a.map nL))]=some [tb (oP rows gl point),ti 0,ti 0]:=by
 intro d;induction d with
 | nil=>
  intro a i h F j;have h1:¬(i:Int) < (rows.length:Int):=by have:=bP h;omega
  rw [Sg] at j;subst j;have f:=IX (decide (a= [])) (a.map nL) ep point (by omega) (λr J=>by
   obtain⟨q,H,rfl⟩:=RU.1 J;have o:=ok q H;rw [G];exact⟨o.e,o.kd,o.len,o.of,by show -1000000<=(0:Int)/\(0:Int)<=1000000;omega⟩) g (by simpa using hm)
  have w:=Cn ep point (by omega) (λx s=>(g x s).b);obtain⟨y,M,A,S⟩:=Cm eg (decide (point= [])) gl (point.map fN) u (by simp;omega) (by omega) (m:=30) (λx s=>by
   obtain⟨z,hz,rfl⟩:=RU.1 s;exact rf (g z hz).b) (by omega)
  have l:(point.map fN).map nv=point.map aY:=by rw [Ul];rfl
  rw [l] at A;have ks:=lM y;have p:decide ((nv y).num.sign > 0)=decide (0 < bg gl (point.map aY)):=by
   rw [A];refine decide_eq_decide.2 ?_;have h1:=rH (-(bg gl (point.map aY)));rcases oW (bg gl (point.map aY)) with e | e | e
   .rw [e];refine⟨λ_=> ?_,λ_=>by decide⟩;have O:¬bg gl (point.map aY) < 0:=λh=>by have:=(rH _).2 h;rw [e] at this;exact absurd this (by decide)
    have k:bg gl (point.map aY)≠0:=λh=>by have:=(fK _).2 h;rw [e] at this;exact absurd this (by decide)
    grind
   .rw [e];refine⟨λh=>absurd h (by decide),λh=> ?_⟩;have:=(rH (bg gl (point.map aY))).1 (by rw [e];decide);exact absurd h (by grind)
   .rw [e];refine⟨λh=>absurd h (by decide),λh=> ?_⟩;have:=(fK (bg gl (point.map aY))).1 e;rw [this] at h;exact absurd h (by grind)
  unfold oP;rw [<-p];cases t:(a.map nL).all λr=>ez r (bg r.of (point.map aY))
  .rw [t] at f;refine ao ?_;rw [Al];simp only [cm,al,↓reduceIte,Int.reduceBEq,Int.reduceEq,GD,h1,f,Tf]
  .rw [t] at f;refine ao ?_;rw [Al];simp only [al,↓reduceIte,Int.reduceBEq,Int.reduceEq,GD,h1,f,w,M,ks,S0]
 | cons r d K=>
  intro a i h F j;obtain⟨B,P,C⟩:=bG h;have h1:(i:Int) < (rows.length:Int):=by omega
  have D: 0<=(i:Int):=by omega
  have L:bY 40 ((a.map nL).length+ [[T.ae 1 r.e (enc r.of),ti r.kd,ti 0]].length)=some ():=lK (by simp;omega);have E:bX (a.map nL)++ [[T.ae 1 r.e (enc r.of),ti r.kd,ti 0]]=bX ((a++ [r]).map nL):=by rw [TC,<-Ld];rfl
  have:=K (a++ [r]) (i+1) C (by simp;omega) (by simpa using j);have k:decide (a++ [r]= [])=false:=by simp
  rw [k] at this;refine ao ?_;rw [Al];simp only [al,↓reduceIte,Int.reduceBEq,Int.reduceEq,GD,h1,D,and_self,cu,gy B,L,E,next i (by omega)];exact this
theorem u9(rows:List R)(er eg ep:Bool)(n:Int)(gl:List Int)(point:List Fr)(j:∀r∈rows,r.e=true->r.of= []):
  Or (.call 10) [LR er rows,I n,ae eg gl,LN ep point] []=
   some (if(lQ n rows gl point).1=0 then [tb (oP rows gl point),ti 0,ti 0] else [tb false,ti (lQ n rows gl point).1,ti (lQ n rows gl point).2]):=by
 have b:=Cl rows er eg n gl j;by_cases h1:(eF n rows gl).1=0
 .obtain⟨_,p,q,k,h,s,t,l⟩:=zK j h1;obtain⟨n,rfl⟩:∃m:Nat,n= (m:Int):=⟨n.toNat,by omega⟩;simp only [R5] at h;by_cases g:(point.length:Int)≠(n:Int)
  .have a:¬(point.length:Int)= (n:Int):=g;have d:lQ (n:Int) rows gl point= (9,0):=by unfold lQ;rw [if_neg (by omega),if_pos g]
   rw [d];refine ao ?_;rw [wU];simp only [al,↓reduceIte,Int.reduceBEq,Int.reduceEq,GD,b,h1,fh,a]
   try rfl
  .have a:(point.length:Int)= (n:Int):=by omega
   have f:=yx ep point (by omega);have d:lQ (n:Int) rows gl point=if(point.all λx=>decide (bw x))=true then(0,0) else(5,0):=by unfold lQ;rw [if_neg (by omega),if_neg g]
   rw [d];cases c:point.all λx=>decide (bw x)
   .rw [c] at f;refine ao ?_;rw [wU];simp only [al,↓reduceIte,Int.reduceBEq,Int.reduceEq,GD,b,h1,fh,a,f,RJ]
    try rfl
   .rw [c] at f;have i:∀x∈point,bw x:=λx o=>of_decide_eq_true (RK.1 c x o);have:=QW rows er eg ep n gl point (by omega) k h (by omega) l (by omega) i rows [] 0 rfl rfl rfl;simp only [if_true];refine ao ?_;rw [wU];simp only [al,↓reduceIte,Int.reduceBEq,Int.reduceEq,GD,b,h1,fh,a,f,RH,cu];exact this
 .have d:lQ n rows gl point=eF n rows gl:=by unfold lQ;rw [if_pos h1]
  rw [d,if_neg h1];refine ao ?_;rw [wU];simp only [al,↓reduceIte,Int.reduceBEq,Int.reduceEq,GD,b,h1]
def bL(x:Nm):Fr:=if cT (nv x)=true then((nv x).num,((nv x).den:Int)) else(0,0)
theorem Hp{m:Nat}{x:Nm}(b:QN m x)(h:m<=6300):Or (.call 18) [EN x] []=some [ti (bL x).1,ti (bL x).2,tb (cT (nv x))]:=by
 have:=P0 b h;unfold bL;cases a:cT (nv x)
 .rw [a] at this;exact this
 .rw [a] at this;exact this
theorem Qs(e:Bool)(l:List Nm)(A:l.length<=1000){m:Nat}(s:∀x∈l,QN m x)(hm:m<=6300):∀(d a:List Nm) (i:Nat) (b:Bool),l.drop i=d->a.length=i->a++d=l->b=a.all (λx=>cT (nv x))->
  Or vF [AV.own (Id.c 0),B b,AV.t (T.ae 4 e (aO l)),I (l.length:Int),I (i:Int)] [ab.sl false 2 (decide (a= [])) (dN (a.map bL))]=some [T.ae 2 (decide (l= [])) (dN (l.map bL)),tb (l.all λx=>cT (nv x))]:=by
 intro d;induction d with
 | nil=>
  intro a i b h r f hb;have h1:¬(i:Int) < (l.length:Int):=by have:=bP h;omega
  rw [Sg] at f;subst f;rw [<-hb];refine ao ?_;rw [E4];simp only [al,↓reduceIte,Int.reduceBEq,Int.reduceEq,GD,h1]
 | cons x d u=>
  intro a i b h r f hb;obtain⟨g,z,o⟩:=bG h;have h1:(i:Int) < (l.length:Int):=by omega
  have p: 0<=(i:Int):=by omega
  have w:=Hp (s x (Rt g)) hm;have y:bY 16 ((dN (a.map bL)).length+ [[ti (bL x).1,ti (bL x).2]].length)=some ():=lK (by rw [fh];simp;omega);have q:dN (a.map bL)++ [[ti (bL x).1,ti (bL x).2]]=dN ((a++ [x]).map bL):=by simp [dN]
  have:=u (a++ [x]) (i+1) (if b=true then cT (nv x) else false) o (by simp;omega) (by simpa using f) (by rw [hb,List.all_append];cases a.all (λx=>cT (nv x)) <;> simp);have k:decide (a++ [x]= [])=false:=by simp
  rw [k] at this;have j:(bif b then cT (nv x) else false)=if b=true then cT (nv x) else false:=by cases b <;> rfl
  refine ao ?_;rw [E4];simp only [al,↓reduceIte,Int.reduceBEq,Int.reduceEq,GD,h1,p,and_self,bA,cg g,w,y,q,j,next i (by omega)];exact this
theorem yy(e:Bool)(l:List Nm)(a:l.length<=1000){m:Nat}(b:∀x∈l,QN m x)(hm:m<=6300):
  Or (.call 14) [AV.t (T.ae 4 e (aO l))] []=some [T.ae 2 (decide (l= [])) (dN (l.map bL)),tb (l.all λx=>cT (nv x))]:=by
 have:=Qs e l a b hm l [] 0 true rfl rfl rfl rfl;refine ao ?_;rw [LA,bA];exact this
open Go Go.Aev Go.Aev.Gen Go.Aev.Wd Go.Aev.Tb
open Go Go.Aev Go.Aev.Gen Go.Aev.Wd Go.Aev.Tb
theorem q1:Rat.divInt 0 1=0:=rfl
section
variable (rows:List R) (er eg ep et:Bool) (n:Nat) (gl:List Int) (v:Fr) (point times:List Fr)
theorem xM(q:Rat):(q.num.sign > 0)↔0 < q:=by
 have h1:=rH q;have a:=fK q;rcases oW q with e | e | e
 .rw [e] at h1 a⊢;refine⟨λ_=> ?_,λ_=>by decide⟩;have c:¬q < 0:=λh=>absurd (h1.2 h) (by decide);have b:q≠0:=λh=>absurd (a.2 h) (by decide);grind
 .rw [e] at h1⊢;refine⟨λh=>absurd h (by decide),λh=> ?_⟩;have:=h1.1 (by decide);exact absurd h (by grind)
 .rw [e] at a⊢;refine⟨λh=>absurd h (by decide),λh=> ?_⟩;have:=a.1 rfl;rw [this] at h;exact absurd h (by grind)
end
end Go.Aev.Wd.Lg
