import Derived.Test.YticjdhgokemdlaaGreatMostWeakQ6
import Derived.Test.YticjdhgokemdlaaGreatMostWeakQ17
set_option linter.all false
namespace Go.Aev.Wd.Lg
open Go Go.Aev Go.Aev.Gen
noncomputable abbrev xC:Key:=aS an 9 true 10 [(2,none),(3,none),(9,none),(11,some 3),(32,none),(33,none),(34,none)] (0,0)
noncomputable abbrev wN:Key:=aS an 15 true 2 [(0,none),(1,none),(5,none)] (0,0)
noncomputable abbrev tH:Key:=aS an 44 true 3 [(1,none),(4,none),(5,none),(6,none)] (0,0)
noncomputable abbrev K9:Key:=aS an 3 true 9 [(0,none),(1,none),(2,none),(4,none),(5,none),(9,none),(14,none),(15,none),(16,none),(17,none),(18,none),(19,some 2),(20,none)] (0,0)
theorem yG(O:au)(er eg ep:Bool)(r g p:JL)(n:Int):ay an ann O (Key.call 9) [Jl 3 er r,I n,Jl 1 eg g,Jl 2 ep p] []=
 (G0 (O (.call 24) [Jl 3 er r,I n,Jl 1 eg g] []) λa c=>bif !a==0 then some [Jb false,Ji a,Ji c] else bif !(p.length:Int)==n then some [Jb false,Ji 9,Ji 0] else G3 (O (.call 25) [Jl 2 ep p] []) λb=>bif b then some [Jb false,Ji 5,Ji 0] else O xC [Jl 1 eg g,Jl 2 ep p,Jr 0,Jo 1,Jl 3 er r,I (r.length:Int),I 0] [ab.box [I 0,I 0],ab.sl false 3 true []]):=by kernel_rfl
theorem B2(O:au)(h a i g:Bool)(o m j l:JL)(k c d f:Int):ay an ann O xC [Jl 1 h o,Jl 2 a m,Jr 0,Jo 1,Jl 3 i j,I k,I c] [ab.box [I d,I f],ab.sl false 3 g l]=
 (bif decide (c < k) then G1 c j λp n u=>Jg (bL 40 (l.length+ [[T.aa 1 p.fst p.snd,Ji n,Ji 0]].length)) λx=>O xC [Jl 1 h o,Jl 2 a m,Jr 0,Jo 1,Jl 3 i j,I k,I (Jw c)] [ab.box [I d,I f],ab.sl false 3 (g && false) (l++ [[T.aa 1 p.fst p.snd,Ji n,Ji 0]])] else G3 (O (.call 26) [Jl 3 g l,Jl 2 a m] []) λb=>G6 (some b) (bV (some b) (O (.call 28) [Jl 2 a m] [])) λp=>G7 (some b) (bV (some b) (O (.call 27) [Jl 1 h o,Jl 4 p.fst p.snd] [])) λq s r t=>G8 (some b) (bV (some b) (O (.call 33) [Ja q s r t] [])) λn=>some [Jb (bif b then decide (n > 0) else false),Ji 0,Ji 0]):=by kernel_rfl
theorem MP(O:au)(a b:Bool)(c d:JL):ay an ann O (Key.call 15) [Jl 3 a c,Jl 2 b d] []=
 (O wN [Jl 3 a c,Jl 2 b d,I 0] []):=by kernel_rfl
theorem FX(O:au)(g a:Bool)(c f:JL)(d:Int):ay an ann O wN [Jl 3 g c,Jl 2 a f,I d] []=
 (bif decide (d < (c.length:Int)) then G1 d c λp n h=>G0 (O (.call 44) [AV.agg [Jl 1 p.fst p.snd,I n,I h],Jl 2 a f] []) λn k=>AE (some !!n==0) d c λp i j=>G5 (some !!n==0) (bV (some !!n==0) (O (.call 45) [AV.agg [Jl 1 p.fst p.snd,I i,I j],Jl 2 a f] [])) λb=>bif bif !n==0 then true else !b then some [Jb false] else O wN [Jl 3 g c,Jl 2 a f,I (Jw d)] [] else some [Jb true]):=by kernel_rfl
theorem yo(O:au)(a f:Bool)(b g:JL)(c d:Int):ay an ann O (Key.call 44) [AV.agg [Jl 1 a b,I c,I d],Jl 2 f g] []=
 (G0 (O (.call 90) [AV.agg [Jl 1 a b,I c,I d],I (g.length:Int)] []) λn h=>O tH [Jl 2 f g,Jr 0,Jr 1,I 0] [ab.box [I 0,I 0],ab.box [I n,I h]]):=by kernel_rfl
theorem BG(O:au)(b f:Bool)(c g:JL)(a d:Int):ay an ann O (Key.call 45) [AV.agg [Jl 1 b c,I a,I d],Jl 2 f g] []=
 (eD (O (.call 16) [Jl 1 b c,Jl 2 f g] []) λx=>eD (O (.call 36) [I d,I 1] []) λh=>G9 (O (.call 17) [AV.t x,AV.t h] []) λn=>some [Jb (bif bif decide (n < 0) then !a==3 else false then true else bif n==0 then !a==2 else false)]):=by kernel_rfl
theorem F4(O:au)(h:Bool)(i:JL)(g c d a f:Int):ay an ann O tH [Jl 2 h i,Jr 0,Jr 1,I g] (Y7 c d a f)=
 (bif bif decide (g < (i.length:Int)) then a==0 else false then m5 g i λn j=>G3 (O (.call 34) [AV.agg [I n,I j]] []) λb=>bif !b then G0 (O (.call 21) [I 5,I g] []) λn k=>O tH [Jl 2 h i,Jr 0,Jr 1,I (Jw g)] (Y7 c d n k) else O tH [Jl 2 h i,Jr 0,Jr 1,I (Jw g)] (Y7 c d a f) else some [Ji a,Ji f]):=by kernel_rfl
theorem bA(O:au)(er eg ep et:Bool)(r g p t:JL)(n vn a:Int):ay an ann O (Key.call 3) [Jl 3 er r,I n,Jl 1 eg g,AV.agg [I vn,I a],Jl 2 ep p,Jl 2 et t] []=
 (G3 (O (.call 7) [] []) λb=>bif !b then some [Jb false] else og (O (.call 8) [Jl 3 er r,I n,Jl 1 eg g,AV.agg [I vn,I a],Jl 2 ep p,Jl 2 et t] []) λb d f=>og (O (.call 9) [Jl 3 er r,I n,Jl 1 eg g,Jl 2 ep p] []) λc h i=>G0 (O (.call 10) [Jl 3 er r,I n,Jl 1 eg g,AV.agg [I vn,I a],Jl 2 ep p,Jl 2 et t] []) λj k=>O K9 [Jl 3 er r,I n,Jl 1 eg g,Jl 2 ep p,Jl 2 et t,Jr 0,B b,Jr 1,B c,Jr 2,Jr 3,Jo 4,I 0] [ab.box [I vn,I a],ab.box [I d,I f],ab.box [I h,I i],ab.box [I j,I k],ab.sl false 2 true []]):=by kernel_rfl
end Go.Aev.Wd.Lg
namespace Go.Aev.Gen
open Go Go.Aev
structure hJ (n:Nat) (r:R):Prop where
 e:r.e=true->r.of= []
 kd:r.kd=1\/r.kd=2\/r.kd=3
 len:r.of.length<=n
 of:Bd 1000000 r.of
 tv: -1000000<=r.tv/\r.tv<=1000000
theorem Fa:∀{l:List Int} {i:Nat},(jI l i).1=0->∀x∈l, -1000000<=x/\x<=1000000
 | [],_,_,x,a=>by cases a
 | y::l,i,h,x,a=>by
  rw [jI] at h;split at h
  .rename_i hy;rcases Uw.1 a with rfl | a
   .exact hy
   .exact Fa h x a
  .simp at h
theorem Ma{n:Nat}{r:R}(a:r.e=true->r.of= [])(h:(jZ n r).1=0):hJ n r:=by
 unfold jZ at h;split at h
 .simp at h
 .rename_i c;split at h
  .simp at h
  .have:=Fa h;exact⟨a,by omega,by omega,λx b=>this x (Uy _ b),this r.tv (by simp)⟩
theorem Fc{n:Nat}:∀{rows:List R} {i:Nat},(∀r∈rows,r.e=true->r.of= [])->(pO n rows i).1=0->∀r∈rows,hJ n r
 | [],_,_,_,r,a=>by cases a
 | q::rows,i,c,h,r,a=>by
  rw [pO] at h;split at h
  .rename_i b;rcases Uw.1 a with rfl | a
   .exact Ma (c _ Uk) b
   .exact Fc (λr a=>c r (Um _ a)) h r a
  .rename_i b;exact absurd h b
def oF(n:Int)(rows:List R):Int×Int:=if n < 0\/n > 12 then(3, -1) else xW n.toNat rows
theorem RV(rows:List R)(e:Bool)(n:Int)(a:∀r∈rows,r.e=true->r.of= []):Or (.call 52) [LR e rows,I n] []=fl (oF n rows):=by
 unfold oF;by_cases h:n < 0\/n > 12
 .rw [if_pos h];refine ak ?_;rw [FZ];simp only [gu,<-Vs];simp only [ai,↓reduceIte,Int.reduceBEq,Int.reduceEq,GD,h]
 .rw [if_neg h];have:=RW rows n.toNat e (by omega) a;rw [Int.toNat_of_nonneg (by omega)] at this;exact this
theorem Fb{n:Int}{rows:List R}(a:∀r∈rows,r.e=true->r.of= [])(h:(oF n rows).1=0): 0<=n/\n<=12/\rows.length<=40/\∀r∈rows,hJ n.toNat r:=by
 unfold oF at h;split at h
 .simp at h
 .unfold xW at h;split at h
  .simp at h
  .exact⟨by omega,by omega,by omega,Fc a h⟩
end Go.Aev.Gen
namespace Go.Aev.Wd.Lg
open Go Go.Aev Go.Aev.Gen Go.Aev.Wd
abbrev qI(r:R):List Int×Int×Int:=(r.of,r.kd,r.tv)
theorem Bw(c:Int):Rat.divInt c 1= (c:Rat):=V7 (c:Rat)
theorem Ka(x:Fr):Or (.call 34) [AV.agg [I x.1,I x.2]] []=some [tb (decide (bg x))]:=by
 obtain⟨b,h1,a⟩:=Pd x.1 x.2;rw [h1];have:b=decide (bg x):=by rw [Bool.eq_iff_iff,a,decide_eq_true_iff];rfl
 rw [this]
theorem Qr(e:Bool)(l:List Fr)(o:l.length<=100)(j:∀x∈l,bg x):∀(a:List Fr) (i:Nat),l.drop i=a->Or tH [LN e l,r0,AV.ref (Id.c 1) 0,I (i:Int)] [ab.box [I 0,I 0],ab.box [I 0,I 0]]=some [ti 0,ti 0]:=by
 intro a;induction a with
 | nil=>
  intro i h;have h1:¬(i:Int) < (l.length:Int):=by have:=bu h;omega
  refine ak ?_;rw [F4];simp only [ai,↓reduceIte,Int.reduceBEq,Int.reduceEq,GD,h1,cV,decide_false]
 | cons x a k=>
  intro i h;obtain⟨b,m,f⟩:=bq h;have h1:(i:Int) < (l.length:Int):=by omega
  have g: 0<=(i:Int):=by omega
  have d:=Ka x;rw [decide_eq_true (j x (Uj b))] at d;refine ak ?_;rw [F4];simp only [ai,↓reduceIte,Int.reduceBEq,Int.reduceEq,GD,h1,g,and_self,cV,kV b,d,decide_true,next i (by omega)];exact k (i+1) f
theorem RY(r:R)(e:Bool)(l:List Fr)(d:l.length<=12)(ok:hJ l.length r)(a:∀x∈l,bg x):Or (.call 44) [AV.agg [aa r.e r.of,I r.kd,I r.tv],LN e l] []=some [ti 0,ti 0]:=by
 have b:=RT r l.length d;have c:jZ l.length r= (0,0):=by
  have h1:=ok.kd;have g:=ok.len;unfold jZ;rw [if_neg (by omega),if_neg (by omega)];have:∀(m:List Int) (i:Nat),(∀x∈m, -1000000<=x/\x<=1000000)->jI m i= (0,0):=by
   intro m;induction m with
   | nil=>intro i _;rfl
   | cons y m f=>intro i h;rw [jI,if_pos (h y Uk)];exact f _ λx a=>h x (Um _ a)
  refine this _ 0 λx a=> ?_;rcases UB.1 a with a | a
  .exact ok.of x a
  .rw [Uv.1 a];exact ok.tv
 rw [c] at b;refine ak ?_;rw [yo];simp only [ai,↓reduceIte,Int.reduceBEq,Int.reduceEq,GD,cV,b];exact Qr e l (by omega) a l 0 rfl
def oO(r:List Int×Int×Int)(l:List Fr):Bool:=decide ((fj r.1 l 0 < (r.2.2:Rat)/\r.2.1≠3)\/(fj r.1 l 0= (r.2.2:Rat)/\r.2.1≠2))
theorem R0(r:R)(e:Bool)(l:List Fr)(z:l.length<=12)(ok:hJ l.length r)(p:∀x∈l,bg x):Or (.call 45) [AV.agg [aa r.e r.of,I r.kd,I r.tv],LN e l] []=some [tb (oO (qI r) l)]:=by have o:=ok.len;obtain⟨y,s,t,u⟩:=JU r.e e r.of l ok.of (λx h=>(p x h).b) ok.len (by omega);have w:=ok.tv;obtain⟨b,f,g⟩:=yR r.tv 1 (by unfold Sm;omega) (by unfold Sm;omega) (by omega);have d:Rat.divInt r.tv 1= (r.tv:Rat):=Bw _;have q:=Fi (m:=51 * r.of.length) (k:=20) t g u (QB.divInt (by omega) (by omega) (by omega)) (by omega);have c:=Me (fj r.of l 0) (Rat.divInt r.tv 1);have a:=Md (fj r.of l 0) (Rat.divInt r.tv 1);rw [d] at c a;refine ak ?_;rw [BG];simp only [ai,↓reduceIte,Int.reduceBEq,Int.reduceEq,GD,s,f,q,d];unfold oO;congr 2;congr 1;simp only [c,a];by_cases i:fj r.of l 0 < (r.tv:Rat) <;> by_cases j:fj r.of l 0= (r.tv:Rat) <;> simp [i,j,qI,kP]
theorem Ql(er:Bool)(b:List R)(e:Bool)(l:List Fr)(g:l.length<=12)(ok:∀r∈b,hJ l.length r)(j:∀x∈l,bg x)(q:b.length<=40):∀(a:List R) (i:Nat),b.drop i=a->Or wN [LR er b,LN e l,I (i:Int)] []=some [tb (a.all λr=>oO (qI r) l)]:=by
 intro a;induction a with
 | nil=>
  intro i h;have h1:¬(i:Int) < (b.length:Int):=by have:=bu h;omega
  refine ak ?_;rw [FX];simp only [ai,↓reduceIte,Int.reduceBEq,Int.reduceEq,GD,h1,cR];rfl
 | cons r a o=>
  intro i h;obtain⟨c,p,m⟩:=bq h;have h1:(i:Int) < (b.length:Int):=by omega
  have f: 0<=(i:Int):=by omega
  have k:=RY r e l g (ok r (Uj c)) j;have d:=R0 r e l g (ok r (Uj c)) j;refine ak ?_;rw [FX];cases hb:oO (qI r) l with
  | false=>rw [hb] at d;simp only [ai,↓reduceIte,Int.reduceBEq,Int.reduceEq,GD,h1,f,and_self,cR,ic c,k,d];simp [hb]
  | true=>rw [hb] at d;simp only [ai,↓reduceIte,Int.reduceBEq,Int.reduceEq,GD,h1,f,and_self,cR,ic c,k,d,next i (by omega),o (i+1) m];simp [hb]
theorem RS(er:Bool)(a:List R)(e:Bool)(l:List Fr)(c:l.length<=12)(ok:∀r∈a,hJ l.length r)(d:∀x∈l,bg x)(b:a.length<=40):Or (.call 15) [LR er a,LN e l] []=some [tb (a.all λr=>oO (qI r) l)]:=by refine ak ?_;rw [MP];exact Ql er a e l c ok d b a 0 rfl
open Go Go.Aev Go.Aev.Gen Go.Aev.Wd Go.Aev.Tb
def fV:List R->Nat->Int×Int
 | [],_=>(0,0)
 | r::a,i=>if r.kd=2 then(4,(i:Int)) else fV a (i+1)
def fH:List Int->Nat->Int×Int
 | [],_=>(0,0)
 | x::xs,i=>if -1000000<=x/\x<=1000000 then fH xs (i+1) else(5,(i:Int))
def eN(n:Int)(rows:List R)(gl:List Int):Int×Int:=
 if(oF n rows).1≠0 then oF n rows else if(fV rows 0).1≠0 then fV rows 0 else if(gl.length:Int) > n then(9,0) else fH gl 0
theorem H6:∀{rows:List R} {i:Nat},(fV rows i).1=0->∀r∈rows,r.kd≠2
 | [],_,_,r,a=>by cases a
 | q::rows,i,h,r,a=>by
  rw [fV] at h;split at h
  .simp at h
  .rename_i b;rcases Uw.1 a with rfl | a
   .exact b
   .exact H6 h r a
theorem HO:∀{gl:List Int} {i:Nat},(fH gl i).1=0->∀c∈gl, -1000000<=c/\c<=1000000
 | [],_,_,r,a=>by cases a
 | q::rows,i,h,r,a=>by
  rw [fH] at h;split at h
  .rename_i b;rcases Uw.1 a with rfl | a
   .exact b
   .exact HO h r a
  .simp at h
theorem Cf:∀(gl:List Int) (i:Nat),(fH gl i).1=0->fH gl i= (0,0)
 | [],_,_=>rfl
 | q::rows,i,h=>by
  rw [fH] at h⊢;split
  .rename_i a;rw [if_pos a] at h;exact Cf rows _ h
  .rename_i a;rw [if_neg a] at h;simp at h
theorem TD(er:Bool)(rows:List R)(p:rows.length<=1000):∀(a:List R) (i:Nat),rows.drop i=a->
  Or oA [LR er rows,AV.fn 54 [] [],I (rows.length:Int),I (i:Int)] []=some [ti (if(fV a i).1=0 then -1 else(fV a i).2)]:=by
 intro a;induction a with
 | nil=>
  intro i h;have h1:¬(i:Int) < (rows.length:Int):=by have:=bu h;omega
  refine ak ?_;rw [BW];simp only [ai,↓reduceIte,Int.reduceBEq,Int.reduceEq,GD,h1,fV]
 | cons r a m=>
  intro i h;obtain⟨g,o,l⟩:=bq h;have h1:(i:Int) < (rows.length:Int):=by omega
  have j: 0<=(i:Int):=by omega
  have f:Or (.call 54) [AV.agg [aa r.e r.of,I r.kd,I r.tv]] []=some [tb (r.kd==2)]:=ak (by rw [Ob]);have:=m (i+1) l;by_cases b:r.kd=2
  .have d:fV (r::a) i= (4,(i:Int)):=by rw [fV,if_pos b]
   have k:¬(4:Int)=0:=by decide
   have c:(r.kd==2)=true:=by simpa using b
   rw [d];rw [c] at f;refine ak ?_;rw [BW];simp only [ai,↓reduceIte,Int.reduceBEq,Int.reduceEq,GD,h1,j,and_self,cR,ic g,f,k]
  .have d:fV (r::a) i=fV a (i+1):=by rw [fV,if_neg b]
   have c:(r.kd==2)=false:=by simpa using b
   rw [d];refine ak ?_;rw [BW];simp only [ai,↓reduceIte,Int.reduceBEq,Int.reduceEq,GD,h1,j,and_self,cR,ic g,f,c,b,next i (by omega)];exact this
theorem TE(el:Bool)(gl:List Int)(q:gl.length<=1000):∀(c:List Int) (i:Nat),gl.drop i=c->
  Or wF [aa el gl,AV.fn 56 [] [],I (gl.length:Int),I (i:Int)] []=some [ti (if(fH c i).1=0 then -1 else(fH c i).2)]:=by
 intro c;induction c with
 | nil=>
  intro i h;have h1:¬(i:Int) < (gl.length:Int):=by have:=bu h;omega
  refine ak ?_;rw [BB];simp only [ai,↓reduceIte,Int.reduceBEq,Int.reduceEq,GD,h1,fH]
 | cons r c o=>
  intro i h;obtain⟨g,p,m⟩:=bq h;have h1:(i:Int) < (gl.length:Int):=by omega
  have j: 0<=(i:Int):=by omega
  have:=o (i+1) m;by_cases l: -1000000<=r/\r<=1000000
  .have f:Or (.call 56) [I r] []=some [tb false]:=ak (by
    rw [GU];have a:¬r < -1000000:=by omega
    have b:¬r > 1000000:=by omega
    simp only [ug,a,b,if_false,decide_false,xU])
   have d:fH (r::c) i=fH c (i+1):=by rw [fH,if_pos l]
   rw [d];refine ak ?_;rw [BB];simp only [ai,↓reduceIte,Int.reduceBEq,Int.reduceEq,GD,h1,j,and_self,cW,jg g,f,next i (by omega)];exact this
  .have f:Or (.call 56) [I r] []=some [tb true]:=ak (by
    rw [GU];by_cases a:r < -1000000
    .simp only [ug,a,if_true,decide_true,um]
    .have b:r > 1000000:=by omega
     simp only [ug,a,b,if_false,decide_true,decide_false,xU])
   have d:fH (r::c) i= (5,(i:Int)):=by rw [fH,if_neg l]
   have k:¬(5:Int)=0:=by decide
   rw [d];refine ak ?_;rw [BB];simp only [ai,↓reduceIte,Int.reduceBEq,Int.reduceEq,GD,h1,j,and_self,cW,jg g,f,k]
theorem PD(rows:List R):∀(i:Nat),(fV rows i).1=0\/((fV rows i).1=4/\(i:Int)<=(fV rows i).2):=by
 induction rows with
 | nil=>intro i;exact .inl rfl
 | cons r rows a=>
  intro i;rw [fV];split
  .exact .inr ⟨rfl,XM _⟩
  .rcases a (i+1) with h | ⟨h,b⟩
   .exact .inl h
   .exact .inr ⟨h,by omega⟩
theorem Po(gl:List Int):∀(i:Nat),(fH gl i).1=0\/((fH gl i).1=5/\(i:Int)<=(fH gl i).2):=by
 induction gl with
 | nil=>intro i;exact .inl rfl
 | cons r rows a=>
  intro i;rw [fH];split
  .rcases a (i+1) with h | ⟨h,b⟩
   .exact .inl h
   .exact .inr ⟨h,by omega⟩
  .exact .inr ⟨rfl,XM _⟩
theorem DW(rows:List R)(er el:Bool)(n:Int)(gl:List Int)(k:∀r∈rows,r.e=true->r.of= []):Or (.call 24) [LR er rows,I n,aa el gl] []=fl (eN n rows gl):=by
 have c:=RV rows er n k;unfold eN;by_cases h1:(oF n rows).1=0
 .have o:=Fb k h1;rw [if_neg (by omega)];have k2:Or (.call 53) [LR er rows,AV.fn 54 [] []] []=_:=ak (by rw [N9,cR];exact TD er rows (by omega) rows 0 rfl);rcases PD rows 0 with g | ⟨g,l⟩
  .rw [if_pos g] at k2;have b:¬(-1:Int)>=0:=by decide
   by_cases a:(gl.length:Int) > n
   .rw [if_neg (by omega),if_pos a];refine ak ?_;rw [uA];simp only [ai,↓reduceIte,Int.reduceBEq,Int.reduceEq,GD,c,h1,k2,b,cW,a]
   .have f:Or (.call 55) [aa el gl,AV.fn 56 [] []] []=_:=ak (by rw [MA,cW];exact TE el gl (by omega) gl 0 rfl);rw [if_neg (by omega),if_neg a];rcases Po gl 0 with d | ⟨d,m⟩
    .rw [if_pos d] at f;rw [Cf _ _ d];refine ak ?_;rw [uA];simp only [ai,↓reduceIte,Int.reduceBEq,Int.reduceEq,GD,c,h1,k2,b,cW,a,f]
    .rw [if_neg (by omega)] at f;have j:(fH gl 0).2>=0:=by omega
     have h:fH gl 0= (5,(fH gl 0).2):=XH d rfl;refine ak ?_;rw [uA,h];simp only [ai,↓reduceIte,Int.reduceBEq,Int.reduceEq,GD,c,h1,k2,b,cW,a,f,j]
  .rw [if_neg (by omega)] at k2;have i:(fV rows 0).2>=0:=by omega
   have h:fV rows 0= (4,(fV rows 0).2):=XH g rfl;rw [if_pos (by omega)];refine ak ?_;rw [uA,h];simp only [ai,↓reduceIte,Int.reduceBEq,Int.reduceEq,GD,c,h1,k2,i]
 .rw [if_pos h1];refine ak ?_;rw [uA];simp only [ai,↓reduceIte,Int.reduceBEq,Int.reduceEq,GD,c,h1]
theorem xV{n:Int}{rows:List R}{gl:List Int}(j:∀r∈rows,r.e=true->r.of= [])(h:(eN n rows gl).1=0):
  eN n rows gl= (0,0)/\0<=n/\n<=12/\rows.length<=40/\(∀r∈rows,hJ n.toNat r)/\(∀r∈rows,r.kd≠2)/\(gl.length:Int)<=n/\∀c∈gl, -1000000<=c/\c<=1000000:=by
 unfold eN at h⊢;by_cases h1:(oF n rows).1=0
 .rw [if_neg (by omega)] at h⊢;obtain⟨d,f,g,i⟩:=Fb j h1;by_cases a:(fV rows 0).1=0
  .rw [if_neg (by omega)] at h⊢;by_cases b:(gl.length:Int) > n
   .rw [if_pos b] at h;simp at h
   .rw [if_neg b] at h⊢;exact⟨Cf _ _ h,d,f,g,i,H6 a,by omega,HO h⟩
  .rw [if_pos a] at h;exact absurd h a
 .rw [if_pos h1] at h;exact absurd h h1
def fN(x:Fr):Nm:=some (aW x)
theorem zx{x:Fr}(h:jB x):Or (.call 30) [AV.agg [I x.1,I x.2]] []=some (NL (fN x)):=SO x.1 x.2 (by unfold jB at h;omega) (by unfold jB at h;omega) (by unfold jB at h;omega)
theorem rX{x:Fr}(h:jB x):QN 30 (fN x):=B9 h.1 h.2
theorem TF(x:Fr):Or (.call 58) [AV.agg [I x.1,I x.2]] []=some [tb (!decide (bg x))]:=by
 have k:=Dw x;refine ak ?_;rw [Od];by_cases h:bg x
 .rw [if_pos h] at k;simp only [ai,↓reduceIte,Int.reduceBEq,Int.reduceEq,GD,k,h,decide_true]
  try rfl
 .rw [if_neg h] at k;simp only [ai,↓reduceIte,Int.reduceBEq,Int.reduceEq,GD,k,h,decide_false]
  try rfl
theorem TW(e:Bool)(l:List Fr)(p:l.length<=1000):∀(a:List Fr) (i:Nat),l.drop i=a->∃z:Int,Or xB [LN e l,AV.fn 58 [] [],I (l.length:Int),I (i:Int)] []=some [ti z]/\(decide (z>=0)= !(a.all λx=>decide (bg x))):=by
 intro a;induction a with
 | nil=>
  intro i h;have h1:¬(i:Int) < (l.length:Int):=by have:=bu h;omega
  refine⟨-1,ak ?_,by simp⟩;rw [B1];simp only [ai,↓reduceIte,Int.reduceBEq,Int.reduceEq,GD,h1]
 | cons x a j=>
  intro i h;obtain⟨d,o,g⟩:=bq h;have h1:(i:Int) < (l.length:Int):=by omega
  have f: 0<=(i:Int):=by omega
  have c:=TF x;by_cases b:bg x
  .rw [decide_eq_true b] at c;obtain⟨z,k,m⟩:=j (i+1) g;refine⟨z,ak ?_,by rw [m];simp [b]⟩;rw [B1];simp only [ai,↓reduceIte,Int.reduceBEq,Int.reduceEq,GD,h1,f,and_self,cV,kV d,c,next i (by omega)];exact k
  .rw [decide_eq_false b] at c;refine⟨(i:Int),ak ?_,by simp [b]⟩;rw [B1];simp only [ai,↓reduceIte,Int.reduceBEq,Int.reduceEq,GD,h1,f,and_self,cV,kV d,c]
theorem z5(e:Bool)(l:List Fr)(a:l.length<=1000):Or (.call 25) [LN e l] []=some [tb (!(l.all λx=>decide (bg x)))]:=by obtain⟨z,c,d⟩:=TW e l a l 0 rfl;have b:Or (.call 97) [LN e l,AV.fn 58 [] []] []=some [ti z]:=ak (by rw [Ox,cV];exact c);have k2:Or (.call 57) [LN e l,AV.fn 58 [] []] []=some [tb (decide (z>=0))]:=ak (by rw [Oc];simp only [ai,↓reduceIte,Int.reduceBEq,Int.reduceEq,GD,b]);refine ak ?_;rw [NV];simp only [ai,↓reduceIte,Int.reduceBEq,Int.reduceEq,GD,k2,d]
theorem Tf(e:Bool)(l:List Fr)(u:l.length<=1000)(p:∀x∈l,jB x):∀(b a:List Fr) (i:Nat),l.drop i=b->a.length=i->a++b=l->
  Or xo [AV.own (Id.c 0),LN e l,I (l.length:Int),I (i:Int)] [ab.sl false 4 (decide (a= [])) (aR (a.map fN))]=some [T.aa 4 (decide (l= [])) (aR (l.map fN))]:=by
 intro b;induction b with
 | nil=>
  intro a i h o d;have h1:¬(i:Int) < (l.length:Int):=by have:=bu h;omega
  rw [Ve] at d;subst d;refine ak ?_;rw [GL];simp only [ai,↓reduceIte,Int.reduceBEq,Int.reduceEq,GD,h1]
 | cons x b q=>
  intro a i h o d;obtain⟨f,t,j⟩:=bq h;have h1:(i:Int) < (l.length:Int):=by omega
  have k: 0<=(i:Int):=by omega
  have r:=zx (p x (Uj f));have s:bL 48 ((aR (a.map fN)).length+ [[tb (decide ((nv (fN x)).num < 0)),T.str (bJ (dz (nv (fN x)).num)),tb (nc (fN x)),T.str (nd (fN x))]].length)=some ():=jw (by rw [bH];simp;omega);have:=q (a++ [x]) (i+1) j (by simp;omega) (by simpa using d);have g:decide (a++ [x]= [])=false:=by simp
  have m:aR (a.map fN)++ [[tb (decide ((nv (fN x)).num < 0)),T.str (bJ (dz (nv (fN x)).num)),tb (nc (fN x)),T.str (nd (fN x))]]=aR ((a++ [x]).map fN):=by rw [NN,Gx,Wg];rfl
  rw [g] at this;refine ak ?_;rw [GL];simp only [ai,↓reduceIte,Int.reduceBEq,Int.reduceEq,GD,h1,k,and_self,cV,kV f,r,s,m,next i (by omega)];exact this
theorem DY(e:Bool)(l:List Fr)(a:l.length<=1000)(b:∀x∈l,jB x):Or (.call 28) [LN e l] []=some [T.aa 4 (decide (l= [])) (aR (l.map fN))]:=by have:=Tf e l a b l [] 0 rfl rfl rfl;refine ak ?_;rw [NY,cV];exact this
def bt:List Int->List Rat->Rat
 | c::of,x::xs=>(c:Rat) * x+bt of xs
 | _,_=>0
theorem oG(xs:List Rat):bt [] xs=0:=by cases xs <;> rfl
theorem Te(eg e:Bool)(gl:List Int)(a:List Nm)(D:∀c∈gl, -1000000<=c/\c<=1000000)(M:gl.length<=a.length)(N:gl.length<=100){m:Nat}(E:∀x∈a,QN m x)(z:Nm):
  ∀(b:List Int) (i:Nat) (d:Nm) (k:Nat),gl.drop i=b->QN k d->k+ (m+21) * b.length<=6300->
  ∃y,Or xn [AV.t (T.aa 4 e (aR a)),r0,AV.ref (Id.c 1) 0,aa eg gl,I (gl.length:Int),I (i:Int)] [ix z,ix d]=some (NL y)/\nv y=nv d+bt b ((a.drop i).map nv)/\QN (k+ (m+21) * b.length) y:=by
 intro b;induction b with
 | nil=>
  intro i d k h g q;have h1:¬(i:Int) < (gl.length:Int):=by have:=bu h;omega
  refine⟨d,ak ?_,by rw [oG];grind,g.mono (by omega)⟩;rw [GJ];simp only [ai,↓reduceIte,Int.reduceBEq,Int.reduceEq,GD,h1]
 | cons c b F=>
  intro i d k h g q;obtain⟨p,L,w⟩:=bq h;rw [UH,X5,XL] at q;have h1:(i:Int) < (gl.length:Int):=by omega
  have A: 0<=(i:Int):=by omega
  have B:(i:Int) < (a.length:Int):=by omega
  have K:=D c (Uj p);have r:=fK c (by omega);have j:QN 20 (iN c):=eu (by omega);have f:=gA (l:=a) (i:=i) (by omega);have o:=E _ (Uj f);have u:=l9 j o (by omega);have s:=nI (x:=d) (y:=tm (iN c) (aq a i)) g (j.mul o) (by omega);obtain⟨y,G,H,J⟩:=F (i+1) (pl d (tm (iN c) (aq a i))) (k+ (m+21)) w ((g.add (j.mul o)).mono (by omega)) (by omega);have C:(a.drop i).map nv=nv (aq a i):: (a.drop (i+1)).map nv:=by
   have:a.drop i=aq a i::a.drop (i+1):=by rw [VR (by omega)];congr 1;rw [Up (by omega)] at f;exact Vb f
   rw [this];rfl
  refine⟨y,ak ?_, ?_,by rw [UH,X5,XL];exact J.mono (by omega)⟩
  .rw [GJ];simp only [ai,↓reduceIte,Int.reduceBEq,Int.reduceEq,GD,h1,A,B,and_self,cW,jg p,r,bH,cu f,u,s,next i (by omega)];exact G
  .rw [H,C,bt];show nv d+ (c:Rat) * nv (aq a i)+ _=_;grind
theorem DX(eg e:Bool)(gl:List Int)(a:List Nm)(b:∀c∈gl, -1000000<=c/\c<=1000000)(d:gl.length<=a.length)(f:gl.length<=12){m:Nat}(g:∀x∈a,QN m x)(hm:m<=400):
  ∃y,Or (.call 27) [aa eg gl,AV.t (T.aa 4 e (aR a))] []=some (NL y)/\nv y=bt gl (a.map nv)/\QN 6000 y:=by
 have hb:(m+21) * gl.length<=(m+21) * 12:=Nat.mul_le_mul_left _ f;obtain⟨y,h,i,j⟩:=Te eg e gl a b d (by omega) g none gl 0 none 0 rfl (iI 0) (by omega);refine⟨y,ak ?_,by rw [i,u5,Xv];grind,j.mono (by omega)⟩;rw [NX,cW];exact h
theorem S7(er e:Bool)(of:List Int)(l:List Fr)(hb:∀c∈of, -1000000<=c/\c<=1000000)(C:∀x∈l,jB x)(K:of.length<=l.length)(L:of.length<=12)(z:Nm):
  ∀(a:List Int) (i:Nat) (b:Nm) (k:Nat),of.drop i=a->QN k b->k+51 * a.length<=6300->
  ∃y,Or AG [LN e l,r0,AV.ref (Id.c 1) 0,aa er of,I (of.length:Int),I (i:Int)] [ix z,ix b]=some (NL y)/\nv y=nv b+bt a ((l.drop i).map aW)/\QN (k+51 * a.length) y:=by
 intro a;induction a with
 | nil=>
  intro i b k h f p;have h1:¬(i:Int) < (of.length:Int):=by have:=bu h;omega
  refine⟨b,ak ?_,by rw [oG];grind,f.mono (by omega)⟩;rw [GH];simp only [ai,↓reduceIte,Int.reduceBEq,Int.reduceEq,GD,h1]
 | cons c a D=>
  intro i b k h f p;obtain⟨o,J,u⟩:=bq h;rw [UH,X5,XL] at p;have h1:(i:Int) < (of.length:Int):=by omega
  have w: 0<=(i:Int):=by omega
  have A:(i:Int) < (l.length:Int):=by omega
  have H:=hb c (Uj o);have r:=fK c (by omega);have j:QN 20 (iN c):=eu (by omega);obtain⟨x,d⟩:∃x,l[i]? =some x:=⟨_,Up (by omega)⟩;have g:=C x (Uj d);have q:=zx g;have m:=rX g;have t:=l9 j m (by omega);have s:=nI (x:=b) (y:=tm (iN c) (fN x)) f (j.mul m) (by omega);obtain⟨y,E,F,G⟩:=D (i+1) (pl b (tm (iN c) (fN x))) (k+51) u ((f.add (j.mul m)).mono (by omega)) (by omega);have B:(l.drop i).map aW=aW x:: (l.drop (i+1)).map aW:=by
   have:l.drop i=x::l.drop (i+1):=by rw [VR (by omega)];congr 1;rw [Up (by omega)] at d;exact Vb d
   rw [this];rfl
  refine⟨y,ak ?_, ?_,by rw [UH,X5,XL];exact G.mono (by omega)⟩
  .rw [GH];simp only [ai,↓reduceIte,Int.reduceBEq,Int.reduceEq,GD,h1,w,A,and_self,cW,jg o,r,cV,kV d,q,t,s,next i (by omega)];exact E
  .rw [F,B,bt];show nv b+ (c:Rat) * aW x+ _=_;grind
theorem TV(r:R)(n:Nat)(d:n<=12)(ok:hJ n r):Or (.call 96) [AV.agg [aa r.e r.of,I r.kd,I r.tv],I (n:Int)] []=some [ti 0,ti 0]:=by
 have b:=JS r n d ok.e;have c:jZ n r= (0,0):=by
  have h1:=ok.kd;have g:=ok.len;unfold jZ;rw [if_neg (by omega),if_neg (by omega)];have:∀(m:List Int) (i:Nat),(∀x∈m, -1000000<=x/\x<=1000000)->jI m i= (0,0):=by
   intro m;induction m with
   | nil=>intro i _;rfl
   | cons y m f=>intro i h;rw [jI,if_pos (h y Uk)];exact f _ λx a=>h x (Um _ a)
  refine this _ 0 λx a=> ?_;rcases UB.1 a with a | a
  .exact ok.of x a
  .rw [Uv.1 a];exact ok.tv
 rw [c] at b;exact b
theorem S0(e:Bool)(l:List Fr)(m:l.length<=100)(g:∀x∈l,bg x):∀(a:List Fr) (i:Nat),l.drop i=a->Or xm [r0,LN e l,I (l.length:Int),I (i:Int)] [ab.box [I 0,I 0]]=some [ti 0,ti 0]:=by
 intro a;induction a with
 | nil=>
  intro i h;have h1:¬(i:Int) < (l.length:Int):=by have:=bu h;omega
  refine ak ?_;rw [GG];simp only [ai,↓reduceIte,Int.reduceBEq,Int.reduceEq,GD,h1]
 | cons x a j=>
  intro i h;obtain⟨b,k,d⟩:=bq h;have h1:(i:Int) < (l.length:Int):=by omega
  have f: 0<=(i:Int):=by omega
  have c:=Dw x;rw [if_pos (g x (Uj b))] at c;refine ak ?_;rw [GG];simp only [ai,↓reduceIte,Int.reduceBEq,Int.reduceEq,GD,h1,f,and_self,cV,kV b,c,next i (by omega)];exact j (i+1) d
def fU(r:R)(q:Rat):Bool:=if r.kd=1 then decide (q<=(r.tv:Rat)) else if r.kd=2 then decide (q < (r.tv:Rat)) else decide (q= (r.tv:Rat))
theorem TH(r:R)(e:Bool)(l:List Fr)(B:l.length<=12)(ok:hJ l.length r)(p:∀x∈l,bg x):
  Or (.call 62) [AV.agg [aa r.e r.of,I r.kd,I r.tv],LN e l] []=some [tb (fU r (bt r.of (l.map aW))),ti 0,ti 0]:=by
 have q:=TV r l.length B ok;have i:=S0 e l (by omega) p l 0 rfl;have a:Or (.call 100) [AV.agg [aa r.e r.of,I r.kd,I r.tv],LN e l] []=some [ti 0,ti 0]:=by refine ak ?_;rw [NR];simp only [ai,↓reduceIte,Int.reduceBEq,Int.reduceEq,GD,cV,q];exact i
 have A:=ok.len;have F:=ok.tv;obtain⟨y,C,D,E⟩:=S7 r.e e r.of l ok.of (λx h=>(p x h).b) ok.len (by omega) none r.of 0 none 0 rfl (iI 0) (by omega);have c:Or (.call 101) [AV.agg [aa r.e r.of,I r.kd,I r.tv],LN e l] []=some (NL y):=ak (by rw [NS,cW];exact C);have f:=fK r.tv (by omega);have d:=nY (x:=y) (y:=iN r.tv) (m:=0+51 * r.of.length) (k:=20) E (eu (by omega)) (by omega);have hy:nv y=bt r.of (l.map aW):=by rw [D,u5,Xv];grind
 have hv:nv (iN r.tv)= (r.tv:Rat):=rfl;rw [hy,hv] at d;have s:=uk (bt r.of (l.map aW)) (r.tv:Rat);have t:=ke (bt r.of (l.map aW)) (r.tv:Rat);have o:=Bo (bt r.of (l.map aW)) (r.tv:Rat);have u:decide (cq (bt r.of (l.map aW)) (r.tv:Rat)<=0)=decide (bt r.of (l.map aW)<=(r.tv:Rat)):=by refine decide_eq_decide.2 ⟨λh=>YQ.1 λj=>by have:=o.2 j;omega,λh=>Int.not_lt.1 λj=>by have:=o.1 j;grind⟩
 have w:decide (cq (bt r.of (l.map aW)) (r.tv:Rat) < 0)=decide (bt r.of (l.map aW) < (r.tv:Rat)):=decide_eq_decide.2 s;have z:(cq (bt r.of (l.map aW)) (r.tv:Rat)==0)=decide (bt r.of (l.map aW)= (r.tv:Rat)):=by rw [kP];exact decide_eq_decide.2 t
 unfold fU;by_cases h1:r.kd=1
 .rw [if_pos h1];refine ak ?_;rw [BY];simp only [ai,↓reduceIte,Int.reduceBEq,Int.reduceEq,GD,a,c,f,d];rw [if_pos h1,u]
 .by_cases g:r.kd=2
  .rw [if_neg h1,if_pos g];refine ak ?_;rw [BY];simp only [ai,↓reduceIte,Int.reduceBEq,Int.reduceEq,GD,a,c,f,d];rw [if_neg h1,if_pos g,w]
  .rw [if_neg h1,if_neg g];refine ak ?_;rw [BY];simp only [ai,↓reduceIte,Int.reduceBEq,Int.reduceEq,GD,a,c,f,d];rw [if_neg h1,if_neg g,z]
theorem TG(er:Bool)(rows:List R)(e:Bool)(l:List Fr)(j:l.length<=12)(ok:∀r∈rows,hJ l.length r)(k:∀x∈l,bg x)(s:rows.length<=40):
  ∀(a:List R) (i:Nat),rows.drop i=a->∃z:Int,Or oA [LR er rows,AV.fn 61 [] [AV.t (T.ptr [T.aa 2 e (gS l)])],I (rows.length:Int),I (i:Int)] []=some [ti z]/\(decide (z>=0)= !(a.all λr=>fU r (bt r.of (l.map aW)))):=by
 intro a;induction a with
 | nil=>
  intro i h;have h1:¬(i:Int) < (rows.length:Int):=by have:=bu h;omega
  refine⟨-1,ak ?_,by simp⟩;rw [BX];simp only [ai,↓reduceIte,Int.reduceBEq,Int.reduceEq,GD,h1]
 | cons r a m=>
  intro i h;obtain⟨c,q,g⟩:=bq h;have h1:(i:Int) < (rows.length:Int):=by omega
  have d: 0<=(i:Int):=by omega
  have f:=TH r e l j (ok r (Uj c)) k;have b:Or (.call 61) [AV.agg [aa r.e r.of,I r.kd,I r.tv],AV.t (T.ptr [T.aa 2 e (gS l)])] []=some [tb (!(fU r (bt r.of (l.map aW))))]:=ak (by rw [Og];simp only [ai,↓reduceIte,Int.reduceBEq,Int.reduceEq,GD,f]);cases hb:fU r (bt r.of (l.map aW))
  .rw [hb] at b;refine⟨(i:Int),ak ?_,by simp [hb]⟩;rw [BX];simp only [ai,↓reduceIte,Int.reduceBEq,Int.reduceEq,GD,h1,d,and_self,cR,ic c,b]
  .rw [hb] at b;obtain⟨z,o,p⟩:=m (i+1) g;refine⟨z,ak ?_,by rw [p];simp [hb]⟩;rw [BX];simp only [ai,↓reduceIte,Int.reduceBEq,Int.reduceEq,GD,h1,d,and_self,cR,ic c,b,next i (by omega)];exact o
theorem KT(er:Bool)(rows:List R)(e:Bool)(l:List Fr)(b:l.length<=12)(ok:∀r∈rows,hJ l.length r)(c:∀x∈l,bg x)(a:rows.length<=40):
  Or (.call 26) [LR er rows,LN e l] []=some [tb (rows.all λr=>fU r (bt r.of (l.map aW)))]:=by
 obtain⟨z,f,g⟩:=TG er rows e l b ok c a rows 0 rfl;have d:Or (.call 53) [LR er rows,AV.fn 61 [] [AV.t (T.ptr [T.aa 2 e (gS l)])]] []=some [ti z]:=ak (by rw [Oa,cR];exact f);have k2:Or (.call 60) [LR er rows,AV.fn 61 [] [AV.t (T.ptr [T.aa 2 e (gS l)])]] []=some [tb (decide (z>=0))]:=ak (by rw [Oe];simp only [ai,↓reduceIte,Int.reduceBEq,Int.reduceEq,GD,d]);refine ak ?_;rw [NW];simp only [ai,↓reduceIte,Int.reduceBEq,Int.reduceEq,GD,k2,g,Bool.not_not]
open Go Go.Aev Go.Aev.Gen Go.Aev.Wd Go.Aev.Tb
def gN(t:Nm):List Int->List Nm->List Nm
 | c::cs,g::a=>pl g (tm (iN c) t)::gN t cs a
 | _,a=>a
def fS:List R->List Nm->List Nm×Nm->List Nm×Nm
 | r::a,x::xs,p=>fS a xs (gN x r.of p.1,pl p.2 (tm (iN r.tv) x))
 | _,_,p=>p
theorem AY(t:Nm):∀(c:List Int) (g:List Nm),(gN t c g).length=g.length
 | [],_=>by simp [gN]
 | _::_,[]=>by simp [gN]
 | c::cs,g::a=>by simp [gN,AY t cs a]
theorem Eo{m k:Nat}{t:Nm}(f:QN k t):∀(c:List Int) (g:List Nm),(∀x∈c, -1000000<=x/\x<=1000000)->(∀x∈g,QN m x)->∀x∈gN t c g,QN (m+ (20+k)+1) x
 | [],g,_,b=>by intro x a;simp [gN] at a;exact(b x a).mono (by omega)
 | _::_,[],_,_=>by intro x a;simp [gN] at a
 | c::cs,g::i,d,b=>by
  intro x a;rw [gN] at a;have l:=d c Uk;have j:QN 20 (iN c):=eu (by omega);rcases Uw.1 a with rfl | a
  .exact(b g Uk).add (j.mul f)
  .exact Eo f cs i (λx h=>d x (Um _ h)) (λx h=>b x (Um _ h)) x a
theorem Ep(t:Nm):∀(c:List Int) (g:List Nm) (k:Nat),k < g.length->nv (aq (gN t c g) k)=nv (aq g k)+ ((c.getD k 0:Int):Rat) * nv t
 | [],g,k,_=>by show nv (aq g k)=nv (aq g k)+ ((0:Int):Rat) * nv t;have:((0:Int):Rat)=0:=rfl;rw [this];grind
 | _::_,[],k,h=>by simp at h
 | c::cs,g::a,0,_=>rfl
 | c::cs,g::a,k+1,h=>Ep t cs a k (by simpa using h)
section
variable (er e:Bool) (rows:List R) (ts:List Nm) {n:Nat}
theorem Th{mt mg:Nat}(Z:n<=12)(hm:rows.length<=40)(V:rows.length<=ts.length)(O:∀x∈ts,QN mt x){i:Nat}(hi:i < rows.length)(ok:hJ n (bf rows i))(s:(bf rows i).kd≠2)(z:Nm){to:Nm}(L:QN mg to)
  (hs:mg+ (20+mt)+1<=6300) {res:List T} {D:List Nm}
  (C:Or xp [AV.t (T.aa 4 e (aR ts)),r0,AV.own (Id.c 1),AV.ref (Id.c 2) 0,B false,LR er rows,I (rows.length:Int),I ((i+1:Nat):Int)] [ix z,ab.sl false 4 false (aR D),ix (pl to (tm (iN (bf rows i).tv) (aq ts i)))]=some res):
  ∀(d:List Int) (a b:List Nm) (j:Nat),(bf rows i).of.drop j=d->b.length=j->d.length<=a.length->(∀y∈a,QN mg y)->b++gN (aq ts i) d a=D->
  Or AH [AV.t (T.aa 4 e (aR ts)),r0,AV.own (Id.c 1),AV.ref (Id.c 2) 0,B false,I (i:Int),AV.ref (Id.c 3) 0,LR er rows,I (rows.length:Int),I (i:Int),aa (bf rows i).e (bf rows i).of,I ((bf rows i).of.length:Int),I (j:Int)]
   [ix z,ab.sl false 4 false (aR (b++a)),ix to,ab.box [aa (bf rows i).e (bf rows i).of,I (bf rows i).kd,I (bf rows i).tv]]=some res:=by
 have f:=gA (l:=ts) (i:=i) (by omega);have q:=O _ (Uj f);have r: 0<=(i:Int)/\(i:Int) < (ts.length:Int):=by omega
 have W:=ok.len;intro d;induction d with
 | nil=>
  intro a b j h w A hy p;have h1:¬(j:Int) < ((bf rows i).of.length:Int):=by have:=bu h;omega
  have F:gN (aq ts i) [] a=a:=rfl;rw [F] at p;have X:=ok.tv;have g:=fK (bf rows i).tv (by omega);have o:QN 20 (iN (bf rows i).tv):=eu (by omega);have m:=l9 o q (by omega);have k:=nI (x:=to) (y:=tm (iN (bf rows i).tv) (aq ts i)) L (o.mul q) hs;have K:((bf rows i).kd==2)=false:=by simpa using s
  rw [p];refine ak ?_;rw [GN];simp only [bT,ai,↓reduceIte,Int.reduceBEq,Int.reduceEq,GD,h1,g,r,and_self,bH,cu f,m,k,K,s,UK,Va,next i (by omega)];exact C
 | cons c d Q=>
  intro a b j h w A hy p;obtain⟨E,Y,N⟩:=bq h;cases a with
  | nil=>simp at A
  | cons y a=>
   have h1:(j:Int) < ((bf rows i).of.length:Int):=by omega
   have H: 0<=(j:Int):=by omega
   have J:(j:Int) < ((b++y::a).length:Int):=by simp;omega
   have G:(b++y::a)[j]? =some y:=by rw [Vq (by omega),w,W2];rfl
   have U:=ok.of c (Uj E);have g:=fK c (by omega);have o:QN 20 (iN c):=eu (by omega);have S:=hy y Uk;have m:=l9 o q (by omega);have k:=nI (x:=y) (y:=tm (iN c) (aq ts i)) S (o.mul q) hs;have M:=kj (l:=b++y::a) (i:=j) (by omega) (pl y (tm (iN c) (aq ts i)));rw [qF _ _ _ _ _ w] at M;have:=Q a (b++ [pl y (tm (iN c) (aq ts i))]) (j+1) N (by simp;omega) (by simpa using A) (λu P=>hy u (Um _ P)) (by rw [<-p];simp [gN]);simp only [UR,Uo,Uq] at this;refine ak ?_;rw [GN];simp only [ai,↓reduceIte,Int.reduceBEq,Int.reduceEq,GD,h1,H,J,r,and_self,cW,jg E,bH,cu G,cu f,g,m,k,M,next j (by omega)];exact this
theorem Ti{mt:Nat}(L:n<=12)(hm:rows.length<=40)(S:rows.length=ts.length)(A:∀x∈ts,QN mt x)(ok:∀r∈rows,hJ n r)(w:∀r∈rows,r.kd≠2)(z:Nm):
  ∀(a:List R) (xs:List Nm) (i mg:Nat) (c:List Nm) (to:Nm),rows.drop i=a->ts.drop i=xs->c.length=n->(∀y∈c,QN mg y)->QN mg to->mg+ (mt+21) * a.length<=6300->
  Or xp [AV.t (T.aa 4 e (aR ts)),r0,AV.own (Id.c 1),AV.ref (Id.c 2) 0,B false,LR er rows,I (rows.length:Int),I (i:Int)] [ix z,ab.sl false 4 false (aR c),ix to]=
   some (T.aa 4 false (aR (fS a xs (c,to)).1):: (NL (fS a xs (c,to)).2++ [tb false]))/\
  (∀y∈(fS a xs (c,to)).1,QN (mg+ (mt+21) * a.length) y)/\QN (mg+ (mt+21) * a.length) (fS a xs (c,to)).2/\(fS a xs (c,to)).1.length=n:=by
 intro a;induction a with
 | nil=>
  intro xs i mg c to h p o d f hs;have h1:¬(i:Int) < (rows.length:Int):=by have:=bu h;omega
  have s:fS [] xs (c,to)= (c,to):=rfl;rw [s];refine⟨ak ?_,λy hy=>(d y hy).mono (by omega),f.mono (by omega),o⟩;rw [GM];simp only [ai,↓reduceIte,Int.reduceBEq,Int.reduceEq,GD,h1];rfl
 | cons r a M=>
  intro xs i mg c to h p o d f hs;obtain⟨m,V,H⟩:=bq h;rw [UH,X5,XL] at hs⊢;cases xs with
  | nil=>have:=bu p;omega
  | cons x xs=>
   obtain⟨D,x2,Q⟩:=bq p;have h1:(i:Int) < (rows.length:Int):=by omega
   have J: 0<=(i:Int):=by omega
   have b:bf rows i=r:=by have:=pg (rows:=rows) (i:=i) (by omega);rw [m] at this;exact(Vb this).symm
   have k:aq ts i=x:=by have:=gA (l:=ts) (i:=i) (by omega);rw [D] at this;exact(Vb this).symm
   have j:=Uj m;have g:=ok r j;have C:=A x (Uj D);have U:=g.tv;have P:QN 20 (iN r.tv):=eu (by omega);have N:∀y∈gN x r.of c,QN (mg+ (mt+21)) y:=λy hy=>(Eo C r.of c g.of d y hy).mono (by omega);have O:QN (mg+ (mt+21)) (pl to (tm (iN r.tv) x)):=(f.add (P.mul C)).mono (by omega);obtain⟨q,E,F,G⟩:=M xs (i+1) (mg+ (mt+21)) (gN x r.of c) (pl to (tm (iN r.tv) x)) H Q (by rw [AY];exact o) N O (by omega);have u:fS (r::a) (x::xs) (c,to)=fS a xs (gN x r.of c,pl to (tm (iN r.tv) x)):=rfl;rw [u];refine⟨ak ?_,λy hy=>(E y hy).mono (by omega),F.mono (by omega),G⟩;have K:=g.len;rw [<-b,<-k] at q;have:=Th er e rows ts (n:=n) L hm (by omega) A (i:=i) (by omega) (by rw [b];exact g) (by rw [b];exact w r j) z f (mg:=mg) (by omega) q (bf rows i).of c [] 0 rfl rfl (by rw [b];omega) d rfl;rw [b,k] at this;simp only [Uq] at this;rw [GM];simp only [ai,↓reduceIte,Int.reduceBEq,Int.reduceEq,GD,h1,J,and_self,cR,ic m,cW];exact this
theorem Tg{mt:Nat}(j:n<=12)(hm:rows.length<=40)(b:rows.length=ts.length)(l:∀x∈ts,QN mt x)(ok:∀r∈rows,hJ n r)(a:∀r∈rows,r.kd≠2)(hs:mt<=130):
  Or (.call 31) [LR er rows,I (n:Int),AV.t (T.aa 4 e (aR ts))] []=
   some (T.aa 4 false (aR (fS rows ts (List.replicate n none,none)).1):: (NL (fS rows ts (List.replicate n none,none)).2++ [tb false]))/\
  (∀y∈(fS rows ts (List.replicate n none,none)).1,QN 6100 y)/\QN 6100 (fS rows ts (List.replicate n none,none)).2/\(fS rows ts (List.replicate n none,none)).1.length=n:=by
 have hb:(mt+21) * rows.length<=(130+21) * 40:=XX (by omega) hm;obtain⟨f,g,h,i⟩:=Ti er e rows ts (n:=n) j hm b l ok a none rows ts 0 0 (List.replicate n none) none rfl rfl (by simp) (λy hy=>by rw [VO hy];exact iI _) (iI _) (by omega);have c:=qe (k:=n) (by omega);have d:((n:Nat):Int).toNat=n:=by omega
 refine⟨ak ?_,λy hy=>(g y hy).mono (by omega),h.mono (by omega),i⟩;rw [NZ];simp only [ai,↓reduceIte,Int.reduceBEq,Int.reduceEq,GD,c,d,rT,cR];exact f
end
def jd:List R->List Rat->Nat->Rat
 | r::a,t::ts,k=>((r.of.getD k 0:Int):Rat) * t+jd a ts k
 | _,_,_=>0
def lI:List R->List Rat->Rat
 | r::a,t::ts=>(r.tv:Rat) * t+lI a ts
 | _,_=>0
theorem E5:∀(a:List R) (xs:List Nm) (c:List Nm) (to:Nm) (k:Nat),k < c.length->nv (aq (fS a xs (c,to)).1 k)=nv (aq c k)+jd a (xs.map nv) k
 | [],xs,c,to,k,_=>by
  have:jd [] (xs.map nv) k=0:=by cases xs <;> rfl
  rw [this];show nv (aq c k)=_;grind
 | r::a,[],c,to,k,_=>by show nv (aq c k)=nv (aq c k)+0;grind
 | r::a,x::xs,c,to,k,h=>by have b:fS (r::a) (x::xs) (c,to)=fS a xs (gN x r.of c,pl to (tm (iN r.tv) x)):=rfl;rw [b,E5 a xs _ _ k (by rw [AY];exact h),Ep _ _ _ _ h,U5,jd];grind
theorem E6:∀(a:List R) (xs:List Nm) (c:List Nm) (to:Nm),nv (fS a xs (c,to)).2=nv to+lI a (xs.map nv)
 | [],xs,c,to=>by
  have:lI [] (xs.map nv)=0:=by cases xs <;> rfl
  rw [this];show nv to=_;grind
 | r::a,[],c,to=>by show nv to=nv to+0;grind
 | r::a,x::xs,c,to=>by have b:fS (r::a) (x::xs) (c,to)=fS a xs (gN x r.of c,pl to (tm (iN r.tv) x)):=rfl;rw [b,E6 a xs,U5,lI];show nv to+ (r.tv:Rat) * nv x+ _=_;grind
def jm:List R->List Fr->Bool
 | r::a,t::ts=> !(decide (r.kd=1) && decide (t.1 < 0)) && jm a ts
 | _,_=>true
def kG(n:Nat)(rows:List R)(gl:List Int)(v:Fr)(point times:List Fr):Bool:=
 (rows.all λr=>fU r (bt r.of (point.map aW))) && decide (bt gl (point.map aW)=aW v) && jm rows times &&
  ((List.range n).all λk=>decide (jd rows (times.map aW) k= ((gl.getD k 0:Int):Rat))) && decide (lI rows (times.map aW)=aW v)
def jS(n:Int)(rows:List R)(gl:List Int)(v:Fr)(point times:List Fr):Int×Int:=
 if(eN n rows gl).1≠0 then eN n rows gl else if(point.length:Int)≠n\/times.length≠rows.length then(9,0) else
 if(decide (bg v) && (point.all λx=>decide (bg x)) && (times.all λx=>decide (bg x)))=true then(0,0) else(5,0)
section
variable {n:Nat} (rows:List R) (er eg ep et:Bool) (gl:List Int) (v:Fr) (point times:List Fr)
theorem TT(hv:bg v)(S:n<=12)(O:gl.length<=n)(C:∀c∈gl, -1000000<=c/\c<=1000000)(a:List Nm)(to:Nm)(Q:a.length=n)(B:∀y∈a,QN 6100 y)(E:QN 6100 to):
  ∀(xs:List Nm) (k:Nat),a.drop k=xs->(∀y,Or tQ [aa eg gl,r0,AV.ref (Id.c 1) 0,AV.ref (Id.c 2) 0,AV.t (T.aa 4 false (aR a)),I (n:Int),I (k:Int)] [ab.box [I v.1,I v.2],ab.box [I 0,I 0],ix to]=y->
   y=some [tb (((List.range' k (n - k)).all λj=>decide (nv (aq a j)= ((gl.getD j 0:Int):Rat))) && decide (nv to=aW v)),ti 0,ti 0]):=by
 intro xs;induction xs with
 | nil=>
  intro k h y hy;have N:=bu h;have h1:¬(k:Int) < (n:Int):=by omega
  have G:=zx hv.b;have g:=nY (x:=to) (y:=fN v) (m:=6100) (k:=30) E (rX hv.b) (by omega);have J:(cq (nv to) (nv (fN v))==0)=decide (nv to=aW v):=by rw [kP];exact decide_eq_decide.2 (ke _ _)
  have A:n - k=0:=by omega
  rw [<-hy,A];refine ak ?_;rw [uD];simp only [ai,↓reduceIte,Int.reduceBEq,Int.reduceEq,GD,h1,G,g,J,List.range'_zero,List.all_nil]
 | cons x xs L=>
  intro k h y hy;obtain⟨r,P,K⟩:=bq h;have h1:(k:Int) < (n:Int):=by omega
  have s: 0<=(k:Int):=by omega
  have q:(k:Int) < (a.length:Int):=by omega
  have F:aq a k=x:=by have:=gA (l:=a) (i:=k) (by omega);rw [r] at this;exact(Vb this).symm
  have u:=fK 0 (by omega);have A:List.range' k (n - k)=k::List.range' (k+1) (n - (k+1)):=by rw [show n - k= (n - (k+1))+1 by omega,Xc]
  have w:=L (k+1) K _ rfl;have H:=B x (Uj r);rw [<-hy,A,VZ,F];by_cases D:k < gl.length
  .have f:(k:Int) < (gl.length:Int):=by omega
   have p:gl[k]? =some (gl.getD k 0):=by rw [Ul,Up D];rfl
   have M:=C _ (Uj p);have z:=fK (gl.getD k 0) (by omega);have g:=nY (x:=x) (y:=iN (gl.getD k 0)) (m:=6100) (k:=20) H (eu (by omega)) (by omega);by_cases o:nv x= ((gl.getD k 0:Int):Rat)
   .have d:cq (nv x) (nv (iN (gl.getD k 0)))=0:=(ke _ _).2 o;rw [decide_eq_true o,VU];refine ak ?_;rw [uD];simp only [ai,↓reduceIte,Int.reduceBEq,Int.reduceEq,GD,h1,s,q,f,and_self,bH,cu r,u,cW,jg p,z,g,d,next k (by omega)];exact w
   .have d:¬cq (nv x) (nv (iN (gl.getD k 0)))=0:=λh=>o ((ke _ _).1 h);rw [decide_eq_false o,VS,VS];refine ak ?_;rw [uD];simp only [ai,↓reduceIte,Int.reduceBEq,Int.reduceEq,GD,h1,s,q,f,and_self,bH,cu r,u,cW,jg p,z,g,d]
  .have f:¬(k:Int) < (gl.length:Int):=by omega
   have p:gl.getD k 0=0:=by rw [Ul,VI (by omega)];rfl
   have g:=nY (x:=x) (y:=iN 0) (m:=6100) (k:=20) H (eu (by decide)) (by omega);rw [p];by_cases o:nv x= ((0:Int):Rat)
   .have d:cq (nv x) (nv (iN 0))=0:=(ke _ _).2 o;rw [decide_eq_true o,VU];refine ak ?_;rw [uD];simp only [ai,↓reduceIte,Int.reduceBEq,Int.reduceEq,GD,h1,s,q,f,and_self,bH,cu r,u,cW,g,d,next k (by omega)];exact w
   .have d:¬cq (nv x) (nv (iN 0))=0:=λh=>o ((ke _ _).1 h);rw [decide_eq_false o,VS,VS];refine ak ?_;rw [uD];simp only [ai,↓reduceIte,Int.reduceBEq,Int.reduceEq,GD,h1,s,q,f,and_self,bH,cu r,u,cW,g,d]
theorem TU(hv:bg v)(M:n<=12)(hm:rows.length<=40)(ok:∀r∈rows,hJ n r)(L:∀r∈rows,r.kd≠2)(K:gl.length<=n)(J:∀c∈gl, -1000000<=c/\c<=1000000)(U:times.length=rows.length)(s:∀x∈times,bg x):
  ∀(d:List R) (ts:List Fr) (i:Nat),rows.drop i=d->times.drop i=ts->
  Or xA [LR er rows,I (n:Int),aa eg gl,LN et times,r0,AV.ref (Id.c 1) 0,LR er rows,I (rows.length:Int),I (i:Int)] [ab.box [I v.1,I v.2],ab.box [I 0,I 0]]=
   some [tb (jm d ts && ((List.range n).all λk=>decide (jd rows (times.map aW) k= ((gl.getD k 0:Int):Rat))) && decide (lI rows (times.map aW)=aW v)),ti 0,ti 0]:=by
 intro d;induction d with
 | nil=>
  intro ts i h E;have h1:¬(i:Int) < (rows.length:Int):=by have:=bu h;omega
  have o:jm [] ts=true:=by cases ts <;> rfl
  have O:=DY et times (by omega) (λx F=>(s x F).b);have g:(times.map fN).map nv=times.map aW:=by rw [Xh];rfl
  obtain⟨q,q1,P,G⟩:=Tg er (decide (times= [])) rows (times.map fN) (n:=n) (mt:=30) M hm (by simp;omega) (λx F=>by
   obtain⟨y,hy,rfl⟩:=UT.1 F;exact rX (s y hy).b) ok L (by omega)
  have u:=λk (a:k < n)=>E5 rows (times.map fN) (List.replicate n none) none k (by simpa using a);have w:=E6 rows (times.map fN) (List.replicate n none) none;rw [g] at w;generalize fS rows (times.map fN) (List.replicate n none,none)=m at q q1 P G u w;have:=TT (n:=n) eg gl v hv M K J m.1 m.2 G q1 P m.1 0 rfl _ rfl;have D:((List.range' 0 (n - 0)).all λj=>decide (nv (aq m.1 j)= ((gl.getD j 0:Int):Rat)))= ((List.range n).all λk=>decide (jd rows (times.map aW) k= ((gl.getD k 0:Int):Rat))):=by
   rw [Vv,<-XC,Bool.eq_iff_iff,UD,UD];refine forall_congr' λk=> ?_;constructor
   .intro A a;have:=u k (Wx.1 a);have hz:nv (aq (List.replicate n (none:Nm)) k)=0:=by
     unfold aq;rw [Ul,Wi];split <;> rfl
    rw [hz,g,XA] at this;rw [<-this];exact A a
   .intro A a;have:=u k (Wx.1 a);have hz:nv (aq (List.replicate n (none:Nm)) k)=0:=by
     unfold aq;rw [Ul,Wi];split <;> rfl
    rw [hz,g,XA] at this;rw [this];exact A a
  have N:nv m.2=lI rows (times.map aW):=by rw [w,u5,XA]
  rw [D,N] at this;rw [o,VU];simp only [Uo,Uq] at q;refine ak ?_;rw [yF];simp only [ai,↓reduceIte,Int.reduceBEq,Int.reduceEq,GD,h1,O,q,bH,G];exact this
 | cons r d S=>
  intro ts i h E;obtain⟨z,V,Q⟩:=bq h;cases ts with
  | nil=>have:=bu E;omega
  | cons t ts=>
   obtain⟨H,W,T⟩:=bq E;have h1:(i:Int) < (rows.length:Int):=by omega
   have B: 0<=(i:Int):=by omega
   have C:(i:Int) < (times.length:Int):=by omega
   have p:=S ts (i+1) Q T;have o:jm (r::d) (t::ts)= (!(decide (r.kd=1) && decide (t.1 < 0)) && jm d ts):=rfl;rw [o];by_cases a:r.kd=1
   .have l:(r.kd==1)=true:=by simpa using a
    by_cases f:t.1 < 0
    .refine ak ?_;rw [yF];simp only [ai,↓reduceIte,Int.reduceBEq,Int.reduceEq,GD,h1,B,C,and_self,cR,ic z,l,cV,kV H,f,decide_true];simp [a,f]
    .have e:(!(decide (r.kd=1) && decide (t.1 < 0)) && jm d ts)=jm d ts:=by simp [a,f]
     rw [e];refine ak ?_;rw [yF];simp only [ai,↓reduceIte,Int.reduceBEq,Int.reduceEq,GD,h1,B,C,and_self,cR,ic z,l,cV,kV H,f,decide_false,next i (by omega)];split
     .exact p
     .exact p
   .have l:(r.kd==1)=false:=by simpa using a
    have e:(!(decide (r.kd=1) && decide (t.1 < 0)) && jm d ts)=jm d ts:=by simp [a]
    rw [e];refine ak ?_;rw [yF];simp only [ai,↓reduceIte,Int.reduceBEq,Int.reduceEq,GD,h1,B,C,and_self,cR,ic z,l,a,cV,kV H,next i (by omega)];exact p
end
open Go Go.Aev Go.Aev.Gen Go.Aev.Wd Go.Aev.Tb
abbrev Av(v:Fr):AV:=AV.agg [I v.1,I v.2]
theorem DT{n:Int}{rows:List R}{gl:List Int}{v:Fr}{point times:List Fr}(c:∀r∈rows,r.e=true->r.of= [])(h:(jS n rows gl v point times).1=0):
  (eN n rows gl).1=0/\(point.length:Int)=n/\times.length=rows.length/\bg v/\(∀x∈point,bg x)/\∀x∈times,bg x:=by
 unfold jS at h;by_cases h1:(eN n rows gl).1=0
 .rw [if_neg (by omega)] at h;by_cases b:(point.length:Int)≠n\/times.length≠rows.length
  .rw [if_pos b] at h;simp at h
  .rw [if_neg b] at h;by_cases a:(decide (bg v) && (point.all λx=>decide (bg x)) && (times.all λx=>decide (bg x)))=true
   .simp only [Un,decide_eq_true_eq,UD] at a;exact⟨h1,by omega,by omega,a.1.1,a.1.2,a.2⟩
   .rw [if_neg a] at h;simp at h
 .rw [if_pos h1] at h;exact absurd h h1
set_option maxRecDepth 10000 in
theorem u8(rows:List R)(er eg ep et:Bool)(n:Int)(gl:List Int)(v:Fr)(point times:List Fr)(P:∀r∈rows,r.e=true->r.of= []):
  Or (.call 8) [LR er rows,I n,aa eg gl,Av v,LN ep point,LN et times] []=
   some (if(jS n rows gl v point times).1=0 then [tb (kG n.toNat rows gl v point times),ti 0,ti 0] else [tb false,ti (jS n rows gl v point times).1,ti (jS n rows gl v point times).2]):=by
 have a:=DW rows er eg n gl P;by_cases h1:(eN n rows gl).1=0
 .obtain⟨_,Y,Z,J,F,V,a6,K⟩:=xV P h1;obtain⟨n,rfl⟩:∃m:Nat,n= (m:Int):=⟨n.toNat,by omega⟩;simp only [UL] at F;by_cases L:(point.length:Int)≠(n:Int)\/times.length≠rows.length
  .have s:jS (n:Int) rows gl v point times= (9,0):=by unfold jS;rw [if_neg (by omega),if_pos L]
   have hb:(if(point.length:Int)= (n:Int) then !((times.length:Int)== (rows.length:Int)) else true)=true:=by
    by_cases M:(point.length:Int)= (n:Int)
    .rw [if_pos M];have:¬(times.length:Int)= (rows.length:Int):=by omega
     simpa using this
    .rw [if_neg M]
   rw [s];refine ak ?_;rw [oJ];simp only [ai,↓reduceIte,Int.reduceBEq,Int.reduceEq,GD,a,h1,cV,cR,hb]
   try rfl
  .have W:point.length=n:=by omega
   have Q:times.length=rows.length:=by omega
   have hb:(if(point.length:Int)= (n:Int) then !((times.length:Int)== (rows.length:Int)) else true)=false:=by
    rw [if_pos (by omega)];have:(times.length:Int)= (rows.length:Int):=by omega
    simpa using this
   have c:Or (.call 25) [AV.t (T.aa 2 false [[ti v.1,ti v.2]])] []=some [tb (!([v].all λx=>decide (bg x)))]:=z5 false [v] (by simp);have g:=z5 ep point (by omega);have j:=z5 et times (by omega);have w:([v].all λx=>decide (bg x))=decide (bg v):=by simp
   rw [w] at c;have s:jS (n:Int) rows gl v point times=if(decide (bg v) && (point.all λx=>decide (bg x)) && (times.all λx=>decide (bg x)))=true then(0,0) else(5,0):=by unfold jS;rw [if_neg (by omega),if_neg L]
   rw [s];cases p:decide (bg v)
   .rw [p] at c;refine ak ?_;rw [oJ];simp only [bT,ai,↓reduceIte,Int.reduceBEq,Int.reduceEq,GD,a,h1,cV,cR,hb,c,UE,Uz,VS]
    try rfl
   .rw [p] at c;cases l:point.all λx=>decide (bg x)
    .rw [l] at g;refine ak ?_;rw [oJ];simp only [bT,ai,↓reduceIte,Int.reduceBEq,Int.reduceEq,GD,a,h1,cV,cR,hb,c,g,UE,Uz,VS]
     try rfl
    .rw [l] at g;cases o:times.all λx=>decide (bg x)
     .rw [o] at j;refine ak ?_;rw [oJ];simp only [bT,ai,↓reduceIte,Int.reduceBEq,Int.reduceEq,GD,a,h1,cV,cR,hb,c,g,j,UE,Uz,VS]
      try rfl
     .rw [o] at j;have hv:bg v:=of_decide_eq_true p;have q:∀x∈point,bg x:=λx f=>of_decide_eq_true (UD.1 l x f);have S:∀x∈times,bg x:=λx f=>of_decide_eq_true (UD.1 o x f);have d:=KT er rows ep point (by omega) (by rw [W];exact F) q J;have C:=DY ep point (by omega) (λx f=>(q x f).b);obtain⟨y,U,H,X⟩:=DX eg (decide (point= [])) gl (point.map fN) K (by simp;omega) (by omega) (m:=30) (λx f=>by
       obtain⟨z,hz,rfl⟩:=UT.1 f;exact rX (q z hz).b) (by omega)
      have G:(point.map fN).map nv=point.map aW:=by rw [Xh];rfl
      rw [G] at H;have E:=zx hv.b;have D:=nY (x:=y) (y:=fN v) (m:=6000) (k:=30) X (rX hv.b) (by omega);have A:=TU (n:=n) rows er eg et gl v times hv (by omega) J F V (by omega) K Q S rows times 0 rfl rfl;have B:kG n rows gl v point times= ((rows.all λr=>fU r (bt r.of (point.map aW))) && (decide (bt gl (point.map aW)=aW v) && (jm rows times && ((List.range n).all λk=>decide (jd rows (times.map aW) k= ((gl.getD k 0:Int):Rat))) && decide (lI rows (times.map aW)=aW v)))):=by unfold kG;simp only [Bool.and_assoc]
      simp only [Bool.and_self,if_true];rw [UL,B];cases N:rows.all λr=>fU r (bt r.of (point.map aW))
      .rw [N] at d;refine ak ?_;rw [oJ];simp only [bT,ai,↓reduceIte,Int.reduceBEq,Int.reduceEq,GD,a,h1,cV,cR,hb,c,g,j,d,UE,Uz,VS]
      .rw [N] at d;by_cases u:bt gl (point.map aW)=aW v
       .have i:cq (nv y) (nv (fN v))=0:=(ke _ _).2 (by rw [H];exact u);rw [decide_eq_true u,VU,VU];refine ak ?_;rw [oJ];simp only [ai,↓reduceIte,Int.reduceBEq,Int.reduceEq,GD,a,h1,cV,cR,hb,c,g,j,d,C,U,E,D,i,UE,Uz];exact A
       .have i:¬cq (nv y) (nv (fN v))=0:=λh=>u (by rw [<-H];exact(ke _ _).1 h);have O:(!(cq (nv y) (nv (fN v))==0))=true:=by simpa using i
        rw [decide_eq_false u,VU,VS];refine ak ?_;rw [oJ];simp only [ai,↓reduceIte,Int.reduceBEq,Int.reduceEq,GD,a,h1,cV,cR,hb,c,g,j,d,C,U,E,D,i,O,UE,Uz]
 .have s:jS n rows gl v point times=eN n rows gl:=by unfold jS;rw [if_pos h1]
  rw [s,if_neg h1];refine ak ?_;rw [oJ];simp only [ai,↓reduceIte,Int.reduceBEq,Int.reduceEq,GD,a,h1]
def oa(r:R):R:={r with tv:=0}
def mW(n:Int)(rows:List R)(gl:List Int)(point:List Fr):Int×Int:=
 if(eN n rows gl).1≠0 then eN n rows gl else if(point.length:Int)≠n then(9,0) else if(point.all λx=>decide (bg x))=true then(0,0) else(5,0)
def pb(rows:List R)(gl:List Int)(point:List Fr):Bool:=((rows.map oa).all λr=>fU r (bt r.of (point.map aW))) && decide (0 < bt gl (point.map aW))
theorem NI(a b:List R):dC a++dC b=dC (a++b):=by simp [dC]
theorem TX(rows:List R)(er eg ep:Bool)(n:Nat)(gl:List Int)(point:List Fr)(Q:n<=12)(hm:rows.length<=40)(ok:∀r∈rows,hJ n r)(N:gl.length<=n)(u:∀c∈gl, -1000000<=c/\c<=1000000)(G:point.length=n)(g:∀x∈point,bg x):
  ∀(d a:List R) (i:Nat),rows.drop i=d->a.length=i->a++d=rows->
  Or xC [aa eg gl,LN ep point,r0,AV.own (Id.c 1),LR er rows,I (rows.length:Int),I (i:Int)] [ab.box [I 0,I 0],ab.sl false 3 (decide (a= [])) (dC (a.map oa))]=some [tb (pb rows gl point),ti 0,ti 0]:=by
 intro d;induction d with
 | nil=>
  intro a i h F j;have h1:¬(i:Int) < (rows.length:Int):=by have:=bu h;omega
  rw [Ve] at j;subst j;have f:=KT (decide (a= [])) (a.map oa) ep point (by omega) (λr J=>by
   obtain⟨q,H,rfl⟩:=UT.1 J;have o:=ok q H;rw [G];exact⟨o.e,o.kd,o.len,o.of,by show -1000000<=(0:Int)/\(0:Int)<=1000000;omega⟩) g (by simpa using hm)
  have w:=DY ep point (by omega) (λx s=>(g x s).b);obtain⟨y,M,A,S⟩:=DX eg (decide (point= [])) gl (point.map fN) u (by simp;omega) (by omega) (m:=30) (λx s=>by
   obtain⟨z,hz,rfl⟩:=UT.1 s;exact rX (g z hz).b) (by omega)
  have l:(point.map fN).map nv=point.map aW:=by rw [Xh];rfl
  rw [l] at A;have ks:=lH y;have p:decide ((nv y).num.sign > 0)=decide (0 < bt gl (point.map aW)):=by
   rw [A];refine decide_eq_decide.2 ?_;have h1:=sG (-(bt gl (point.map aW)));rcases pn (bt gl (point.map aW)) with e | e | e
   .rw [e];refine⟨λ_=> ?_,λ_=>by decide⟩;have O:¬bt gl (point.map aW) < 0:=λh=>by have:=(sG _).2 h;rw [e] at this;exact absurd this (by decide)
    have k:bt gl (point.map aW)≠0:=λh=>by have:=(fY _).2 h;rw [e] at this;exact absurd this (by decide)
    grind
   .rw [e];refine⟨λh=>absurd h (by decide),λh=> ?_⟩;have:=(sG (bt gl (point.map aW))).1 (by rw [e];decide);exact absurd h (by grind)
   .rw [e];refine⟨λh=>absurd h (by decide),λh=> ?_⟩;have:=(fY (bt gl (point.map aW))).1 e;rw [this] at h;exact absurd h (by grind)
  unfold pb;rw [<-p];cases t:(a.map oa).all λr=>fU r (bt r.of (point.map aW))
  .rw [t] at f;refine ak ?_;rw [B2];simp only [bT,ai,↓reduceIte,Int.reduceBEq,Int.reduceEq,GD,h1,f,VS]
  .rw [t] at f;refine ak ?_;rw [B2];simp only [ai,↓reduceIte,Int.reduceBEq,Int.reduceEq,GD,h1,f,w,M,ks,VU]
 | cons r d K=>
  intro a i h F j;obtain⟨B,P,C⟩:=bq h;have h1:(i:Int) < (rows.length:Int):=by omega
  have D: 0<=(i:Int):=by omega
  have L:bL 40 ((a.map oa).length+ [[T.aa 1 r.e (enc r.of),ti r.kd,ti 0]].length)=some ():=jw (by simp;omega);have E:dC (a.map oa)++ [[T.aa 1 r.e (enc r.of),ti r.kd,ti 0]]=dC ((a++ [r]).map oa):=by rw [Wg,<-NI];rfl
  have:=K (a++ [r]) (i+1) C (by simp;omega) (by simpa using j);have k:decide (a++ [r]= [])=false:=by simp
  rw [k] at this;refine ak ?_;rw [B2];simp only [ai,↓reduceIte,Int.reduceBEq,Int.reduceEq,GD,h1,D,and_self,cR,ic B,L,E,next i (by omega)];exact this
theorem u9(rows:List R)(er eg ep:Bool)(n:Int)(gl:List Int)(point:List Fr)(j:∀r∈rows,r.e=true->r.of= []):
  Or (.call 9) [LR er rows,I n,aa eg gl,LN ep point] []=
   some (if(mW n rows gl point).1=0 then [tb (pb rows gl point),ti 0,ti 0] else [tb false,ti (mW n rows gl point).1,ti (mW n rows gl point).2]):=by
 have b:=DW rows er eg n gl j;by_cases h1:(eN n rows gl).1=0
 .obtain⟨_,p,q,k,h,s,t,l⟩:=xV j h1;obtain⟨n,rfl⟩:∃m:Nat,n= (m:Int):=⟨n.toNat,by omega⟩;simp only [UL] at h;by_cases g:(point.length:Int)≠(n:Int)
  .have a:¬(point.length:Int)= (n:Int):=g;have d:mW (n:Int) rows gl point= (9,0):=by unfold mW;rw [if_neg (by omega),if_pos g]
   rw [d];refine ak ?_;rw [yG];simp only [ai,↓reduceIte,Int.reduceBEq,Int.reduceEq,GD,b,h1,cV,a]
   try rfl
  .have a:(point.length:Int)= (n:Int):=by omega
   have f:=z5 ep point (by omega);have d:mW (n:Int) rows gl point=if(point.all λx=>decide (bg x))=true then(0,0) else(5,0):=by unfold mW;rw [if_neg (by omega),if_neg g]
   rw [d];cases c:point.all λx=>decide (bg x)
   .rw [c] at f;refine ak ?_;rw [yG];simp only [ai,↓reduceIte,Int.reduceBEq,Int.reduceEq,GD,b,h1,cV,a,f,UE]
    try rfl
   .rw [c] at f;have i:∀x∈point,bg x:=λx o=>of_decide_eq_true (UD.1 c x o);have:=TX rows er eg ep n gl point (by omega) k h (by omega) l (by omega) i rows [] 0 rfl rfl rfl;simp only [if_true];refine ak ?_;rw [yG];simp only [ai,↓reduceIte,Int.reduceBEq,Int.reduceEq,GD,b,h1,cV,a,f,Uz,cR];exact this
 .have d:mW n rows gl point=eN n rows gl:=by unfold mW;rw [if_pos h1]
  rw [d,if_neg h1];refine ak ?_;rw [yG];simp only [ai,↓reduceIte,Int.reduceBEq,Int.reduceEq,GD,b,h1]
def dh(x:Nm):Fr:=if dK (nv x)=true then((nv x).num,((nv x).den:Int)) else(0,0)
theorem I8{m:Nat}{x:Nm}(b:QN m x)(h:m<=6300):Or (.call 43) [EN x] []=some [ti (dh x).1,ti (dh x).2,tb (dK (nv x))]:=by
 have:=KD b h;unfold dh;cases a:dK (nv x)
 .rw [a] at this;exact this
 .rw [a] at this;exact this
theorem Tr(e:Bool)(l:List Nm)(A:l.length<=1000){m:Nat}(s:∀x∈l,QN m x)(hm:m<=6300):∀(d a:List Nm) (i:Nat) (b:Bool),l.drop i=d->a.length=i->a++d=l->b=a.all (λx=>dK (nv x))->
  Or xu [AV.own (Id.c 0),B b,AV.t (T.aa 4 e (aR l)),I (l.length:Int),I (i:Int)] [ab.sl false 2 (decide (a= [])) (gS (a.map dh))]=some [T.aa 2 (decide (l= [])) (gS (l.map dh)),tb (l.all λx=>dK (nv x))]:=by
 intro d;induction d with
 | nil=>
  intro a i b h r f hb;have h1:¬(i:Int) < (l.length:Int):=by have:=bu h;omega
  rw [Ve] at f;subst f;rw [<-hb];refine ak ?_;rw [GQ];simp only [ai,↓reduceIte,Int.reduceBEq,Int.reduceEq,GD,h1]
 | cons x d u=>
  intro a i b h r f hb;obtain⟨g,z,o⟩:=bq h;have h1:(i:Int) < (l.length:Int):=by omega
  have p: 0<=(i:Int):=by omega
  have w:=I8 (s x (Uj g)) hm;have y:bL 16 ((gS (a.map dh)).length+ [[ti (dh x).1,ti (dh x).2]].length)=some ():=jw (by rw [cV];simp;omega);have q:gS (a.map dh)++ [[ti (dh x).1,ti (dh x).2]]=gS ((a++ [x]).map dh):=by simp [gS]
  have:=u (a++ [x]) (i+1) (if b=true then dK (nv x) else false) o (by simp;omega) (by simpa using f) (by rw [hb,List.all_append];cases a.all (λx=>dK (nv x)) <;> simp);have k:decide (a++ [x]= [])=false:=by simp
  rw [k] at this;have j:(bif b then dK (nv x) else false)=if b=true then dK (nv x) else false:=by cases b <;> rfl
  refine ak ?_;rw [GQ];simp only [ai,↓reduceIte,Int.reduceBEq,Int.reduceEq,GD,h1,p,and_self,bH,cu g,w,y,q,j,next i (by omega)];exact this
theorem z6(e:Bool)(l:List Nm)(a:l.length<=1000){m:Nat}(b:∀x∈l,QN m x)(hm:m<=6300):
  Or (.call 40) [AV.t (T.aa 4 e (aR l))] []=some [T.aa 2 (decide (l= [])) (gS (l.map dh)),tb (l.all λx=>dK (nv x))]:=by
 have:=Tr e l a b hm l [] 0 true rfl rfl rfl rfl;refine ak ?_;rw [N4,bH];exact this
end Go.Aev.Wd.Lg
