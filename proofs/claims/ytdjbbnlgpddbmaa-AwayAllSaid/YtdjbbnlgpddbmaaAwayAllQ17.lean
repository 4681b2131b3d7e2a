import Derived.Test.YtdjbbnlgpddbmaaAwayAllQ13
import Derived.Test.YtdjbbnlgpddbmaaAwayAllQ15
import Derived.Test.YtdjbbnlgpddbmaaAwayAllQ16
set_option linter.all false
namespace Go.Aev.Tb
open Go Go.Aev
theorem BC(f:Nat->Rat)(n:Nat):∀(m:Nat),sm (n+m) f=sm n f+sm m (λi=>f (n+i))
 | 0=>by show sm n f=sm n f+0;grind
 | m+1=>by show sm (n+m) f+f (n+m)=sm n f+ (sm m (λi=>f (n+i))+f (n+m));rw [BC f n m];grind
structure Sy.RC (S:Sy) (G:Nat->Rat) (t:bV) (g:Nat->Rat):Prop where
 free:∀u,u < S.n->g u=0
 sg:∀i,i < S.m->S.kd i≠3->0<=g (S.n+i)
 ax:∀k,k < S.n->sm S.m (λi=>g (S.n+i) * S.A i k)=G k
 val:sm S.n (λk=>G k * t.y k)=sm S.m (λi=>g (S.n+i) * S.to i)
open Go Go.Aev
def Sy.mul(S:Sy)(t:bV)(i:Nat):Nat->Rat:=λj=>if S.n+j=t.ah i then -(S.ao t (t.ah i)) else S.ao t (t.ah i) * t.c i (S.n+j)
structure Sy.Ref (S:Sy) (T:Nat->Rat):Prop where
 sg:∀j,j < S.m->S.kd j≠3->0<=T j
 ax:∀k,k < S.n->sm S.m (λj=>T j * S.A j k)=0
 val:sm S.m (λj=>T j * S.to j) < 0
theorem Rn(S:Sy)(t:bV)(b:Nat):S.ao t b=1\/S.ao t b= -1:=by
 unfold Sy.ao;split
 .exact .inr rfl
 .exact .inl rfl
end Go.Aev.Tb
namespace Go.Aev.Wd.Lg
open Go Go.Aev Go.Aev.Gen Go.Aev.Wd
open Go Go.Aev Go.Aev.Gen Go.Aev.Wd Go.Aev.Tb
theorem Qc(f:Nat->Rat)(n:Nat):sm (n+1) f=f 0+sm n (λi=>f (i+1)):=by
 rw [VF,BC f 1 n];have:(λi=>f (1+i))=λi=>f (i+1):=by funext i;rw [VF]
 rw [this];show(0+f 0)+ _=_;grind
theorem zj:∀(of:List Int) (xs:List Rat),of.length<=xs.length->b9 of xs=sm xs.length (λk=>((of.getD k 0:Int):Rat) * xs.getD k 0)
 | [],xs,_=>by rw [vu];refine(l7 λk _=> ?_).symm;show((0:Int):Rat) * _=0;have:((0:Int):Rat)=0:=rfl;rw [this,T6]
 | c::of,[],h=>by simp at h
 | c::of,x::xs,h=>by rw [Sc,Qc];show(c:Rat) * x+b9 of xs= (c:Rat) * x+sm xs.length (λk=>((of.getD k 0:Int):Rat) * xs.getD k 0);rw [zj of xs (by simpa using h)]
section
variable {n:Nat} {rows:List R} {gl:List Int} {t:TL}
end
open Go Go.Aev Go.Aev.Gen Go.Aev.Wd Go.Aev.Tb
section
variable {n:Nat} {rows:List R} {gl:List Int} {t:TL}
end
open Go Go.Aev Go.Aev.Gen Go.Aev.Wd Go.Aev.Tb
section
variable {n:Nat} {rows:List R} {t:TL}
end
open Go Go.Aev Go.Aev.Gen Go.Aev.Wd Go.Aev.Tb
section
variable {n:Nat} {rows:List R} {gl:List Int}
end
open Go Go.Aev Go.Aev.Gen Go.Aev.Wd Go.Aev.Tb
section
variable {n:Nat} {rows:List R} {gl:List Int}
end
open Go Go.Aev Go.Aev.Gen Go.Aev.Wd Go.Aev.Tb
theorem QW{n:Nat}{rows:List R}(f:Fl)(t:TL){mv o:Nat}(hn:n<=12)(hl:t.val.length=n+rows.length)(z:∀u,u < n+rows.length->VB mv (aH t.val u)){e:Nm}(h:QN o e)(hm:mv+ (mv+o)+1<=6300):
  ∀(d k:Nat),d+k=n->
  Or uI [AV.ref (Id.c 6) 0,AV.own (Id.c 7),AV.part (Id.c 4) 8 0 n,I (n:Int),I (k:Int)] (S1 n rows f t++ [ny e,ab.sl false 4 (decide (k=0)) (bg ((t.val.take k).map (gI e)))])=
   some (T.ae 4 (decide (n=0)) (bg ((t.val.take n).map (gI e)))::gA n rows f t):=by
 intro d;induction d with
 | zero=>
  intro k r;obtain rfl:k=n:=by omega
  have h1:¬(k:Int) < (k:Int):=by omega
  refine an ?_;simp only [RU,R0];rw [E8,hI];simp only [aj,↓reduceIte,Int.reduceBEq,Int.reduceEq,GD,h1,jI,jT]
 | succ d A=>
  intro k r;have h1:(k:Int) < (n:Int):=by omega
  have p: 0<=(k:Int):=by omega
  have a:=oA (val:=t.val) (i:=k) (by omega);have s:=nE a;have l: 0+ (k:Int).toNat= (k:Int).toNat:=by omega
  have g:=z k (by omega);have m:=wT (x:=(aH t.val k).2) (y:=e) g.2 h (by omega);have b:=AT (x:=(aH t.val k).1) (y:=tm (aH t.val k).2 e) g.1 (g.2.mul h) (by omega);have v:((t.val.take k).map (gI e)).length=k:=by simp;omega
  have s1:bw 48 (((t.val.take k).map (gI e)).length+ [[tb (decide ((nv (gI e (aH t.val k))).num < 0)),T.str (bA (dz (nv (gI e (aH t.val k))).num)),tb (nc (gI e (aH t.val k))),T.str (nd (gI e (aH t.val k)))]].length)=some ():=iD (by simp;omega);have q:bg ((t.val.take k).map (gI e))++ [[tb (decide ((nv (gI e (aH t.val k))).num < 0)),T.str (bA (dz (nv (gI e (aH t.val k))).num)),tb (nc (gI e (aH t.val k))),T.str (nd (gI e (aH t.val k)))]]=bg ((t.val.take (k+1)).map (gI e)):=by rw [T8,a,UL,<-Ma];rfl
  have w:pl (aH t.val k).1 (tm (aH t.val k).2 e)=gI e (aH t.val k):=rfl;rw [w] at b;have:=A (k+1) (by omega);have j:decide (k+1=0)=false:=by simp
  rw [j] at this;simp only [RU,R0] at this;refine an ?_;simp only [RU,R0];rw [E8];simp only [aj,↓reduceIte,Int.reduceBEq,Int.reduceEq,GD,h1,p,and_self,l,s,m,b,dP,s1,q,next k (by omega)];exact this
theorem QX{n:Nat}{rows:List R}(f:Fl)(t:TL){mv:Nat}(sz:Sz n rows)(hl:t.val.length=n+rows.length)(b:∀u,u < n+rows.length->VB mv (aH t.val u))(hm:mv<=1000):
  Or (.call 16) [r0] (S1 n rows f t)=some (T.ae 4 (decide (n=0)) (bg (kV n rows t.val))::gA n rows f t):=by
 have hn:=sz.n;obtain⟨d,e⟩:=Jj sz f.er f.eb f.ev f.eg t.ah t.val t.aT hl b hm;have:=QW (rows:=rows) f t hn hl b e (by omega) n 0 (by omega);simp only [RU,R0,Uc,T0] at this;have a:cU 0 (n:Int) (t.val.length:Int)=some ():=sw (by omega);have c:(n:Int).toNat - 0=n:=by omega
 refine an ?_;rw [Ml];simp only [aj,↓reduceIte,Int.reduceBEq,Int.reduceEq,GD,d,e8,a,c];exact this
def Gj:List T:= [ti 0,T.aL true,T.aL true,ti 10,ti 0]
def xx(n:Nat)(rows:List R)(p:Nat):List T:=
 match bW n rows true p (ei n rows) with
 | (_,false,_)=> [ti 3,T.aL true,T.aL true,ti 0,ti 0]
 | (some l,true,_)=>if pU l=true then [ti 2,T.aL true,lF l,ti 0,ti 0] else Gj
 | (none,true,t)=>if pU (kV n rows t.val)=true then [ti 1,lF (kV n rows t.val),T.aL true,ti 0,ti 0] else Gj
set_option maxRecDepth 20000 in
theorem QL(rows:List R)(er:Bool)(n:Nat)(p:Nat)(G:p<=2000)(hr:∀r∈rows,r.e=true->r.of= [])(s:(iO n rows).1=0):
  Or (.call 6) [LR er rows,I (n:Int),I (p:Int)] []=some (xx n rows p):=by
 have j:=Bt rows er n hr;obtain⟨E,F,B,C⟩:=Dy hr s;have ro:=H3 (n:=n) (by omega) B C;have hn:=ro.sz.n;have hm:=ro.sz.m;have g:¬(p:Int) < 0:=by omega
 have i:¬(p:Int) > 2000:=by omega
 have d:=QM er ro;have k:=GU ro;have a:=QQ (n:=n) (rows:=rows) (wM er rows) ro rfl p (ei n rows) (by omega) k;have q:=λl=>MT ro p (ei n rows) k l;have c:=FL ro p k;unfold xx;generalize bW n rows true p (ei n rows)=r1 at a q c⊢;obtain⟨no,done,u⟩:=r1;simp only at a q c;rw [Ht] at d;rw [hI] at a;refine an ?_;rw [Mh];cases done with
 | false=>simp only [aj,↓reduceIte,Int.reduceBEq,Int.reduceEq,GD,jQ,j,s,g,i,decide_false,d,jO,iP,R2,fD,a];cases no <;> (simp only [iY,aj,↓reduceIte,Int.reduceBEq,Int.reduceEq,GD,jQ,jO,iP,R2])
 | true=>
  cases no with
  | some l=>
   have o:=BW false l (by have:=(q l rfl).1;omega) (q l rfl).2 (by omega);simp only;cases w:pU l
   .have b:(l.all λx=>fy (nv x))=false:=w;rw [b] at o;simp only [aj,↓reduceIte,Int.reduceBEq,Int.reduceEq,GD,jQ,iY,j,s,g,i,decide_false,d,jO,iP,R2,fD,a,o,Sw,Sl];rfl
   .have b:(l.all λx=>fy (nv x))=true:=w;rw [b] at o;simp only [aj,↓reduceIte,Int.reduceBEq,Int.reduceEq,GD,jQ,iY,j,s,g,i,decide_false,d,jO,iP,R2,fD,a,o,Sw,Sl];rfl
  | none=>
   have A:=ON ro.sz c.aZ.v (c.val ro) (by omega);have D:(kV n rows u.val).length=n:=by have:=c.aZ.v;unfold kV;simp;omega
   have y:Or (.call 17) [AV.t (T.ae 4 true [])] []=some [T.ae 2 true [],tb true]:=BW true [] (by decide) (m:=0) (λ_ h=>by cases h) (by decide);have z:=QX (rows:=rows) (wM er rows) u ro.sz c.aZ.v (c.val ro) (by omega);rw [hI] at z;have f:=BW (decide (n=0)) (kV n rows u.val) (by omega) A (by omega);simp only;cases w:pU (kV n rows u.val)
   .have b:((kV n rows u.val).all λx=>fy (nv x))=false:=w;rw [b] at f;simp only [aj,↓reduceIte,Int.reduceBEq,Int.reduceEq,GD,jQ,iY,j,s,g,i,decide_false,d,jO,iP,R2,fD,a,y,z,f,Sw,Sl];rfl
   .have b:((kV n rows u.val).all λx=>fy (nv x))=true:=w;rw [b] at f;simp only [aj,↓reduceIte,Int.reduceBEq,Int.reduceEq,GD,jQ,iY,j,s,g,i,decide_false,d,jO,iP,R2,fD,a,y,z,f,Sw,Sl];rfl
end Go.Aev.Wd.Lg
