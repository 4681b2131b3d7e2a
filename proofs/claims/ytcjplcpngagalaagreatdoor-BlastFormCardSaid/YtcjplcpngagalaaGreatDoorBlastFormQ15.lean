import Derived.Test.YtcjplcpngagalaaGreatDoorBlastFormQ8
import Derived.Test.YtcjplcpngagalaaGreatDoorBlastFormQ12
import Derived.Test.YtcjplcpngagalaaGreatDoorBlastFormQ14
import Derived.Test.YtcjplcpngagalaaGreatDoorBlastFormQ13
set_option linter.all false
namespace Go.Aev.Gen
open Go Go.Aev Go.IntKind
theorem KK(b c e3:Bool):Or (.call 16) [AV.agg [AV.t (T.ad 3 b []),AV.t (T.ad 5 c []),AV.t (T.ad 1 e3 [])]] []=some [tb true]:=by refine ah ?_;rw [F6];rfl
structure A5 (d d':Dc):Prop where
 nm:d.nm=d'.nm
 so:d.so=d'.so
 ar:d.ar=d'.ar
section
variable {e e':Bool} {ds ds':List Dc}
theorem IX{k:Nat}{d b:Dc}(h:ds[k]? =some d)(c:ds'[k]? =some b)(q:d.ar=b.ar)(hl:d.ar.length<=1000)(w:k<=1000)
  (s:Or qf [AV.t (T.ad 3 e (aI ds)),AV.t (T.ad 3 e' (aI ds')),I ((k+1:Nat):Int)] []=some [tb true]):
  ∀(r:List Int) (j:Nat),d.ar.drop j=r->Or sa [AV.t (T.ad 3 e (aI ds)),AV.t (T.ad 3 e' (aI ds')),I (k:Int),I (j:Int)] []=some [tb true]:=by
 have i: 0<=(k:Int):=by omega
 have l:(k:Int) < (ds.length:Int):=by have:=(M5.1 h).1;omega
 have v:(k:Int) < (ds'.length:Int):=by have:=(M5.1 c).1;omega
 have m:(aI ds')[((k:Nat):Int).toNat]? =some [T.str b.nm,T.ad 1 b.ea (enc d.ar),ti b.so]:=by rw [dv c,q]
 intro r;induction r with
 | nil=>
  intro j g;have f:¬(j:Int) < (d.ar.length:Int):=by have:=bx g;omega
  refine ah ?_;rw [zH];simp only [aj,↓reduceIte,Int.reduceBEq,Int.reduceEq,i,l,and_self,ca,dv h,aD,f,next k (by omega)];exact s
 | cons a r u=>
  intro j g;obtain⟨n,x,o⟩:=bz g;have f:(j:Int) < (d.ar.length:Int):=by omega
  have h0: 0<=(j:Int):=by omega
  refine ah ?_;rw [zH];simp only [aj,↓reduceIte,Int.reduceBEq,Int.reduceEq,i,l,v,h0,f,and_self,ca,dv h,m,aD,bC n,next j (by omega)];exact u (j+1) o
theorem IW(o:ds.length=ds'.length)(hl:ds.length<=1000)(n:∀d∈ds,d.ar.length<=1000)(h:∀(k:Nat) (d f:Dc),ds[k]? =some d->ds'[k]? =some f->A5 d f):∀(r:List Dc) (k:Nat),ds.drop k=r->Or qf [AV.t (T.ad 3 e (aI ds)),AV.t (T.ad 3 e' (aI ds')),I (k:Int)] []=some [tb true]:=by
 intro r;induction r with
 | nil=>
  intro k g;have m:¬(k:Int) < (ds.length:Int):=by have:=bx g;omega
  refine ah ?_;rw [zG];simp only [aj,↓reduceIte,Int.reduceBEq,Int.reduceEq,ca,m]
 | cons d r s=>
  intro k g;obtain⟨b,z,l⟩:=bz g;have u: 0<=(k:Int):=by omega
  have v:(k:Int) < (ds.length:Int):=by omega
  have w:(k:Int) < (ds'.length:Int):=by omega
  have c:ds'[k]? =some ds'[k]:=Nc (by omega);obtain⟨x,y,i⟩:=h k d _ b c;have j:(aI ds')[((k:Nat):Int).toNat]? =some [T.str d.nm,T.ad 1 ds'[k].ea (enc d.ar),ti d.so]:=by rw [dv c,x,y,i]
  have q:=IX (e:=e) (e':=e') b c i (n d (Nh b)) (by omega) (s (k+1) l) d.ar 0 rfl;refine ah ?_;rw [zG];simp only [aj,↓reduceIte,Int.reduceBEq,Int.reduceEq,u,v,w,and_self,ca,dv b,j,aD,M8,cond_false];exact q
theorem KN(b:ds.length=ds'.length)(hl:ds.length<=1000)(g:∀d∈ds,d.ar.length<=1000)(f:∀(k:Nat) (d c:Dc),ds[k]? =some d->ds'[k]? =some c->A5 d c):Or (.call 19) [AV.t (T.ad 3 e (aI ds)),AV.t (T.ad 3 e' (aI ds'))] []=some [tb true]:=by
 have h:=IW (e:=e) (e':=e') b hl g f ds 0 rfl;have i:(((aI ds).length:Int)== ((aI ds').length:Int))=true:=by rw [ca,ca,b];simp
 refine ah ?_;rw [F9,i];exact h
end
open Go Go.Aev Go.IntKind
theorem mN(M:Mk)(op:Int)(nm:ByteArray)(n d:Int)(ks:List Int):(cI M op nm n d ks).2.N.length<=M.N.length+1:=by
 unfold cI;split
 .show M.N.length<=_;omega
 .simp
theorem mc(M:Mk)(b:Bool):(bV M b).2.N.length<=M.N.length+1:=mN ..
theorem rq(M:Mk)(a:Int):(bR M a).2.N.length<=M.N.length+1:=by
 unfold bR
 repeat' split
 .exact mc ..
 .exact mc ..
 .simp
 .exact mN ..
theorem nA(M:Mk)(a b:Int):(bc M a b).2.N.length<=M.N.length+1:=by
 unfold bc
 repeat' split
 .simp
 .simp
 .exact mN ..
theorem xx(M:Mk)(a b:Int):(cY M a b).2.N.length<=M.N.length+1:=by
 unfold cY
 repeat' split
 .simp
 .simp
 .exact mN ..
theorem wH(M:Mk)(a b:Int):(bY M a b).2.N.length<=M.N.length+1:=by
 unfold bY
 repeat' split
 .exact mc ..
 .simp
 .simp
 .exact rq ..
 .exact rq ..
 .exact mN ..
theorem yx(M:Mk)(a b:Int):(aO M a b).2.N.length<=M.N.length+2:=by unfold aO;have c:=wH M a b;have d:=rq (bY M a b).2 (bY M a b).1;omega
theorem Kc(c:Int)(M:Mk)(a b:Int):(cE c M a b).2.N.length<=M.N.length+1:=by
 unfold cE;split
 .simp
 .exact mN ..
theorem o8{f:Mk->Int->Int->Int×Mk}{c:Nat}(d:∀M a b,(f M a b).2.N.length<=M.N.length+c):∀{a b:List Int} {M:Mk},(aK f M a b).2.N.length<=M.N.length+c * a.length
 | [],b,M=>by rw [show aK f M [] b= ([],M) by simp [aK]];simp
 | x::a,[],M=>by rw [show aK f M (x::a) []= ([],M) by simp [aK]];simp
 | x::a,y::b,M=>by have g:=d M x y;have h:=o8 d (a:=a) (b:=b) (M:=(f M x y).2);rw [aK,Nf,P9];show(aK f (f M x y).2 a b).2.N.length<=_;omega
theorem El:∀{a b:List Int} {M:Mk} {c:Int},(dQ M c a b).2.N.length<=M.N.length+ (7 * a.length - 3)
 | [],b,M,c=>by rw [rT];simp
 | x::a,[],M,c=>by rw [show dQ M c (x::a) []= ([],M) by simp [dQ]];simp
 | x::a,y::b,M,c=>by
  have f:=yx M x y;have g:=yx (aO M x y).2 (aO M x y).1 c;rw [dQ];dsimp only;split
  .rw [Nf];dsimp only;omega
  .rename_i d;have l: 1<=a.length:=by
    cases a with
    | nil=>simp at d
    | cons _ _=>simp
   have h:=nA (aO (aO M x y).2 (aO M x y).1 c).2 x y;have i:=nA (bc (aO (aO M x y).2 (aO M x y).1 c).2 x y).2 (aO M x y).1 c;have j:=xx (bc (bc (aO (aO M x y).2 (aO M x y).1 c).2 x y).2 (aO M x y).1 c).2 (bc (aO (aO M x y).2 (aO M x y).1 c).2 x y).1 (bc (bc (aO (aO M x y).2 (aO M x y).1 c).2 x y).2 (aO M x y).1 c).1;have k:=El (a:=a) (b:=b) (M:=(cY (bc (bc (aO (aO M x y).2 (aO M x y).1 c).2 x y).2 (aO M x y).1 c).2 (bc (aO (aO M x y).2 (aO M x y).1 c).2 x y).1 (bc (bc (aO (aO M x y).2 (aO M x y).1 c).2 x y).2 (aO M x y).1 c).1).2) (c:=(cY (bc (bc (aO (aO M x y).2 (aO M x y).1 c).2 x y).2 (aO M x y).1 c).2 (bc (aO (aO M x y).2 (aO M x y).1 c).2 x y).1 (bc (bc (aO (aO M x y).2 (aO M x y).1 c).2 x y).2 (aO M x y).1 c).1).1);rw [Nf];dsimp only;omega
theorem Er{a b:List Int}{M:Mk}:(cN M a b).2.N.length<=M.N.length+ (1+ (7 * a.length - 3)):=by have d:=mc M false;have f:=El (a:=a) (b:=b) (M:=(bV M false).2) (c:=(bV M false).1);unfold cN;omega
def uP(M:Mk):Prop:= ∃v,lk (jl 2 s0 0 0 []) M.K=some v
theorem Cd{s:ByteArray}{v:Int}:∀{K:List (ByteArray×Int)},lk s K=none->lk s (K++ [(s,v)])=some v
 | [],_=>by simp [lk]
 | (k,u)::r,h=>by
  rw [lk] at h;rw [NR,lk];split at h
  .cases h
  .rename_i e;rw [if_neg e];exact Cd h
theorem FL(M:Mk):uP (bV M false).2:=by
 unfold bV cI;split
 .rename_i v h;exact⟨v,h⟩
 .rename_i h;exact⟨_,Cd h⟩
theorem FM{M:Mk}(h:uP M):(bV M false).2=M:=by obtain⟨v,h⟩:=h;unfold bV cI;rw [show lk (jl (if false=true then 1 else 2) s0 0 0 []) M.K=some v from h]
theorem wZ{n:Int}{a:List Int}:∀(k i:Nat) {M:Mk},uP M->(cQ M a n i k).2=M
 | 0,i,M,_=>rfl
 | k+1,i,M,h=>by
  rw [cQ];split
  .show(cQ (bV M false).2 a n (i+1) k).2=M;rw [FM h];exact wZ k (i+1) h
  .exact wZ k (i+1) h
theorem B6{n:Int}{a:List Int}:∀(k i:Nat) {M:Mk},(cQ M a n i k).2.N.length<=M.N.length+1
 | 0,i,M=>by simp [cQ]
 | k+1,i,M=>by
  rw [cQ];split
  .show(cQ (bV M false).2 a n (i+1) k).2.N.length<=_;rw [wZ k (i+1) (FL M)];exact mc ..
  .exact B6 k (i+1)
theorem wY{n:Int}{a:List Int}{M:Mk}:(aW M a n).2.N.length<=M.N.length+1:=B6 ..
theorem tE{n:Int}{a:List Int}:∀(k i:Nat) {M:Mk},(cQ M a n i k).1.length=k
 | 0,i,M=>rfl
 | k+1,i,M=>by
  rw [cQ];split
  .show(cQ (bV M false).2 a n (i+1) k).1.length+1=k+1;rw [tE k (i+1)]
  .show(cQ M a n (i+1) k).1.length+1=k+1;rw [tE k (i+1)]
theorem C4:∀{l:List Int} {M:Mk} {x:Int},(bU M x l).2.N.length<=M.N.length+l.length/\(bU M x l).1.length=l.length
 | [],M,x=>by simp [bU]
 | y::l,M,x=>by have b:=nA M x y;obtain⟨c,d⟩:=C4 (l:=l) (M:=(bc M x y).2) (x:=x);rw [bU];simp only [Nf];omega
theorem Eo:∀{a b:List Int} {M:Mk} {c:Int},a.length=b.length->(dQ M c a b).1.length=a.length
 | [],b,M,c,_=>by rw [rT]
 | x::a,[],M,c,h=>by simp at h
 | x::a,y::b,M,c,h=>by
  rw [dQ];dsimp only;split
  .rename_i d;have:a= []:=ON.1 d;subst this;rfl
  .rw [Nf,Nf,Eo (a:=a) (b:=b) (by simpa using h)]
theorem Ex{a:List Int}{w:Nat}(c:a.length=w):∀{b:List Int} {i:Nat} {M:Mk} {out:List Int},out.length=w->(fy M a out i b).2.N.length<=M.N.length+b.length * (1+w+ (1+ (7 * w - 3)))
 | [],i,M,out,_=>by rw [fy];simp
 | x::b,i,M,out,ho=>by
  have f:=wY (n:=(i:Int)) (a:=a) (M:=M);have k:(aW M a (i:Int)).1.length=w:=by unfold aW;rw [tE];exact c
  obtain⟨g,m⟩:=C4 (l:=(aW M a (i:Int)).1) (M:=(aW M a (i:Int)).2) (x:=x);have h:=Er (a:=out) (b:=(bU (aW M a (i:Int)).2 x (aW M a (i:Int)).1).1) (M:=(bU (aW M a (i:Int)).2 x (aW M a (i:Int)).1).2);have d:(cN (bU (aW M a (i:Int)).2 x (aW M a (i:Int)).1).2 out (bU (aW M a (i:Int)).2 x (aW M a (i:Int)).1).1).1.length=w:=by unfold cN;rw [Eo (by omega)];exact ho
  have j:=Ex c (b:=b) (i:=i+1) (M:=(cN (bU (aW M a (i:Int)).2 x (aW M a (i:Int)).1).2 out (bU (aW M a (i:Int)).2 x (aW M a (i:Int)).1).1).2) (out:=(cN (bU (aW M a (i:Int)).2 x (aW M a (i:Int)).1).2 out (bU (aW M a (i:Int)).2 x (aW M a (i:Int)).1).1).1) d;rw [fy,Nf,OR];omega
theorem Mu{a b:List Int}{M:Mk}(hl:b.length=a.length):(gy M a b).2.N.length<=M.N.length+ (1+a.length * (1+a.length+ (1+ (7 * a.length - 3)))):=by
 have f:=wY (n:=(a.length:Int)) (a:=a) (M:=M);have d:(aW M a (a.length:Int)).1.length=a.length:=by unfold aW;rw [tE]
 have c:=Ex (a:=a) rfl (b:=b) (i:=0) (M:=(aW M a (a.length:Int)).2) (out:=(aW M a (a.length:Int)).1) d;rw [hl] at c;unfold gy;omega
theorem B8:∀{a b:List Int} {M:Mk} {c:Int},(eR M c a b).2.N.length<=M.N.length+5 * a.length
 | [],b,M,c=>by rw [show eR M c [] b= (c,M) by simp [eR]];simp
 | x::a,[],M,c=>by rw [show eR M c (x::a) []= (c,M) by simp [eR]];simp
 | x::a,y::b,M,c=>by rw [eR];have d:=rq M x;have f:=nA (bR M x).2 (bR M x).1 y;have g:=wH (bc (bR M x).2 (bR M x).1 y).2 x y;have h:=nA (bY (bc (bR M x).2 (bR M x).1 y).2 x y).2 (bY (bc (bR M x).2 (bR M x).1 y).2 x y).1 c;have i:=xx (bc (bY (bc (bR M x).2 (bR M x).1 y).2 x y).2 (bY (bc (bR M x).2 (bR M x).1 y).2 x y).1 c).2 (bc (bR M x).2 (bR M x).1 y).1 (bc (bY (bc (bR M x).2 (bR M x).1 y).2 x y).2 (bY (bc (bR M x).2 (bR M x).1 y).2 x y).1 c).1;have j:=B8 (a:=a) (b:=b) (M:=(cY (bc (bY (bc (bR M x).2 (bR M x).1 y).2 x y).2 (bY (bc (bR M x).2 (bR M x).1 y).2 x y).1 c).2 (bc (bR M x).2 (bR M x).1 y).1 (bc (bY (bc (bR M x).2 (bR M x).1 y).2 x y).2 (bY (bc (bR M x).2 (bR M x).1 y).2 x y).1 c).1).2) (c:=(cY (bc (bY (bc (bR M x).2 (bR M x).1 y).2 x y).2 (bY (bc (bR M x).2 (bR M x).1 y).2 x y).1 c).2 (bc (bR M x).2 (bR M x).1 y).1 (bc (bY (bc (bR M x).2 (bR M x).1 y).2 x y).2 (bY (bc (bR M x).2 (bR M x).1 y).2 x y).1 c).1).1);rw [Nf];omega
theorem Iv{a b:List Int}{M:Mk}:(iP M a b).2.N.length<=M.N.length+ (1+5 * a.length):=by have d:=mc M false;have f:=B8 (a:=a) (b:=b) (M:=(bV M false).2) (c:=(bV M false).1);unfold iP;omega
theorem CK:∀{l:List Int} {M:Mk},(eA M l).2.N.length<=M.N.length+l.length
 | [],M=>by simp [eA]
 | y::l,M=>by have b:=rq M y;have c:=CK (l:=l) (M:=(bR M y).2);rw [eA,Nf];dsimp only;omega
theorem zi{n:Int}:∀(k b:Nat) {M:Mk},(eu M n b k).2.N.length<=M.N.length+k
 | 0,b,M=>by simp [eu]
 | k+1,b,M=>by have c:=mc M (il n b);have d:=zi (n:=n) k (b+1) (M:=(bV M (il n b)).2);rw [eu];dsimp only;omega
theorem Cz{pre:ByteArray}{kids:List Int}:∀(k b:Nat) {M:Mk},(cL M pre kids b k).2.N.length<=M.N.length+k
 | 0,b,M=>by simp [cL]
 | k+1,b,M=>by have c:=mN M 9 (pre++it (b:Int)) 0 0 kids;have d:=Cz (pre:=pre) (kids:=kids) k (b+1) (M:=(cI M 9 (pre++it (b:Int)) 0 0 kids).2);rw [cL];dsimp only;omega
theorem yE:∀{l:List Int} {M:Mk} {acc:Int},(gJ M acc l).2.N.length<=M.N.length+l.length
 | [],M,acc=>by simp [gJ]
 | y::l,M,acc=>by have b:=nA M acc y;have c:=yE (l:=l) (M:=(bc M acc y).2) (acc:=(bc M acc y).1);rw [gJ,Nf];omega
theorem AP{f:Mk->Int->Int->Int×Mk}:∀{a b:List Int} {M:Mk},(aK f M a b).1.length<=a.length
 | [],b,M=>by rw [show aK f M [] b= ([],M) by simp [aK]];simp
 | x::a,[],M=>by rw [show aK f M (x::a) []= ([],M) by simp [aK]];simp
 | x::a,y::b,M=>by have:=AP (f:=f) (a:=a) (b:=b) (M:=(f M x y).2);rw [aK,Nf,Nf];omega
theorem LW{a b:List Int}{M:Mk}:(kF M a b).2.N.length<=M.N.length+ (1+2 * a.length):=by have d:=mc M true;have g:=o8 (f:=bY) (c:=1) (λM a b=>wH M a b) (a:=a) (b:=b) (M:=(bV M true).2);have h:=yE (l:=(aK bY (bV M true).2 a b).1) (M:=(aK bY (bV M true).2 a b).2) (acc:=(bV M true).1);have i:=AP (f:=bY) (a:=a) (b:=b) (M:=(bV M true).2);unfold kF;omega
def jE(x:Nd):Nat:=if x.op=21 then 70 else 19
theorem MP{c:Cx}{t:Tr}{M:Mk}{i:Nat}{x:Nd}{s:Int}(ok:kR c i x s)(g:aF s=true)(J:s<=13)(A:cy c t M i):(eG c t M x s).2.N.length<=M.N.length+jE x/\(i=0->(eG c t M x s).2.N.length<=M.N.length+3):=by
 have one:∀{a:Int},x.ks= [a]->x.ks.getD 0 0=a:=λh=>by rw [h];rfl
 have C:∀{a b:Int},x.ks= [a,b]->x.ks.getD 0 0=a:=λh=>by rw [h];rfl
 have D:∀{a b:Int},x.ks= [a,b]->x.ks.getD 1 0=b:=λh=>by rw [h];rfl
 have I:=e8 g;have o:∀{m:Nat},m<=M.N.length+3->m<=M.N.length+jE x/\(i=0->m<=M.N.length+3):=λ{m} h=>⟨by unfold jE;split <;> omega,λ_=>h⟩;have kl:∀{a:Int},KW c i a s->(aB t a).length<=3:=λk=>by have:=(k.word A g).2.1;omega
 unfold eG;by_cases w:x.op=9
 .rw [if_pos w];apply o;have:=Cz (pre:=c.p++it (bf c.ds x.nm)++us) (kids:=x.ks.map (bm t)) (s - 10).toNat 0 (M:=M);omega
 rw [if_neg w];by_cases c7:x.op=7
 .rw [if_pos c7];apply o;obtain⟨a,b,d,e,q,B,K⟩:=ok.c7 c7;rw [e];have j:=o8 (f:=cE (bm t a)) (c:=1) (λM y z=>Kc _ M y z) (a:=aB t b) (b:=aB t d) (M:=M);have F:=kl B;show(aK (cE (bm t a)) M (aB t b) (aB t d)).2.N.length<=_;omega
 rw [if_neg c7];by_cases eH:x.op=15
 .rw [if_pos eH];apply o;have j:=ok.eH eH;have F:=zi (n:=x.n) x.d.toNat 0 (M:=M);omega
 rw [if_neg eH];by_cases dR:x.op=16
 .rw [if_pos dR];apply o;obtain⟨_,a,e,q⟩:=ok.dR (.inl dR);rw [one e];have j:=CK (l:=aB t a) (M:=M);have F:=kl q;omega
 rw [if_neg dR];by_cases bq:x.op=23
 .rw [if_neg (by omega),if_neg (by omega),if_neg (by omega),if_neg (by omega),if_neg (by omega)];apply o;have j:=wY (n:=x.n) (a:=aB t (x.ks.getD 0 0)) (M:=M);omega
 have G: 17<=x.op/\x.op<=21:=by
  rcases PC (17<=x.op/\x.op<=21) with h | h
  .exact h
  exfalso;have:=ok.op;by_cases c8:x.op=8
  .rw [(ok.c8 c8).1] at g;cases g
  by_cases du:x.op=22
  .rw [(ok.du du).1] at g;cases g
  have:=(ok.pl c7 c8 (by omega)).1 w;rw [this] at g;cases g
 obtain⟨_,a,b,e,q,B⟩:=ok.fj G.1 G.2;have H:i≠0:=λE=>by have:=q.h0;have:=q.lt;omega
 rw [C e,D e];have L:=(q.word A g).2.1;have O:=(B.word A g).2.1;have ka:=kl q;refine⟨?_,λE=>absurd E H⟩;unfold jE;by_cases fj:x.op=17
 .rw [if_pos fj,if_neg (by omega)];have j:=o8 (f:=bc) (c:=1) (λM y z=>nA M y z) (a:=aB t a) (b:=aB t b) (M:=M);omega
 rw [if_neg fj];by_cases r:x.op=18
 .rw [if_pos r,if_neg (by omega)];have j:=o8 (f:=cY) (c:=1) (λM y z=>xx M y z) (a:=aB t a) (b:=aB t b) (M:=M);omega
 rw [if_neg r];by_cases u:x.op=19
 .rw [if_pos u,if_neg (by omega)];have j:=o8 (f:=aO) (c:=2) (λM y z=>yx M y z) (a:=aB t a) (b:=aB t b) (M:=M);omega
 rw [if_neg u];by_cases v:x.op=20
 .rw [if_pos v,if_neg (by omega)];have j:=Er (a:=aB t a) (b:=aB t b) (M:=M);omega
 rw [if_neg v,if_pos (by omega),if_pos (by omega)];have j:=Mu (a:=aB t a) (b:=aB t b) (M:=M) (by omega);have hl:(aB t a).length=1\/(aB t a).length=2\/(aB t a).length=3:=by omega
 rcases hl with e | e | e <;> rw [e] at j <;> omega
theorem Ke{c:Cx}{t:Tr}{M:Mk}{i:Nat}{x:Nd}{s:Int}(ok:kR c i x s)(A:∀(k:Nat) (s:Int),c.ss[k]? =some s->aF s=true->s<=13)(w:cy c t M i):(fc t M x).2.N.length<=M.N.length+jE x/\(i=0->(fc t M x).2.N.length<=M.N.length+3):=by
 have g:∀{a b:Int},x.ks= [a,b]->x.ks.getD 0 0=a:=λh=>by rw [h];rfl
 have l:∀{a b:Int},x.ks= [a,b]->x.ks.getD 1 0=b:=λh=>by rw [h];rfl
 have r:∀{m:Nat},m<=M.N.length+3->m<=M.N.length+jE x/\(i=0->m<=M.N.length+3):=λ{m} h=>⟨by unfold jE;split <;> omega,λ_=>h⟩;have kl:∀{a s':Int},aF s'=true->KW c i a s'->(aB t a).length<=3:=λy k=>by have u:=(k.word w y).2.1;have v:=A _ _ k.so y;omega
 have o:∀{a s':Int} {m:Nat},KW c i a s'->m<=M.N.length+19->m<=M.N.length+jE x/\(i=0->m<=M.N.length+3):=λ{a s' m} k h=>⟨by unfold jE;split <;> omega,λD=>by have:=k.h0;have:=k.lt;omega⟩;unfold fc;by_cases du:x.op=22
 .rw [if_pos du];obtain⟨_,a,b,s',j,e,f,C⟩:=ok.du du;rw [g e,l e];have u:=Iv (a:=aB t a) (b:=aB t b) (M:=M);have v:=kl j f;exact o f (by omega)
 rw [if_neg du];by_cases c8:x.op=8/\(aB t (x.ks.getD 0 0)).isEmpty=false
 .rw [if_pos c8];obtain⟨_,a,b,s',e,h⟩:=ok.c8 c8.1;have q:=c8.2;rw [g e] at q;rw [g e,l e];rcases h with⟨j,f,C⟩ | h
  .have u:=LW (a:=aB t a) (b:=aB t b) (M:=M);have v:=kl j f;exact o f (by omega)
  .obtain⟨E,f,z⟩:=h a (by rw [e];exact M3);have B:aB t a= []:=by
    have:=(f.plain w z).1;unfold aB;rw [Na,this];rfl
   rw [B] at q;cases q
 rw [if_neg c8];apply r;have:=mN M x.op x.nm x.n x.d (x.ks.map (bm t));omega
theorem Mj{c:Cx}{t:Tr}{M:Mk}{i:Nat}{x:Nd}{s:Int}(ok:kR c i x s)(hs:c.ss[i]? =some s)(b:∀(k:Nat) (s:Int),c.ss[k]? =some s->aF s=true->s<=13)(d:cy c t M i):(fJ c t M x s).2.N.length<=M.N.length+jE x/\(i=0->(fJ c t M x s).2.N.length<=M.N.length+3):=by
 unfold fJ;cases f:aF s with
 | true=>exact MP ok f (b i s hs f) d
 | false=>exact Ke ok b d
def mV:List Nd->Nat
 | []=>0
 | x::r=>(if x.op=21 then 1 else 0)+mV r
theorem Ci{c:Cx}(ok:nc c)(q:c.p.size<=100)(m:∀(k:Nat) (s:Int),c.ss[k]? =some s->aF s=true->s<=13):
  ∀(rn:List Nd) (rs:List Int) (i:Nat) (t:Tr) (M:Mk),c.ns.drop i=rn->c.ss.drop i=rs->i<=c.ns.length->cy c t M i->M.N.length<=800->(ft c rn rs t M).2.N.length<=M.N.length+19 * rn.length+51 * mV rn - (if i=0/\rn≠[] then 16 else 0)
 | [],rs,i,t,M,g,b,o,d,n=>by rw [show ft c [] rs t M= (t,M) by simp [ft]];simp
 | x::rn,[],i,t,M,g,b,o,d,n=>by have z:=(bz g).2.1;have A:=bx b;have:=ok.sl;omega
 | x::rn,s::rs,i,t,M,g,b,o,d,n=>by
  obtain⟨l,y,u⟩:=bz g;obtain⟨h,_,j⟩:=bz b;obtain⟨st,up⟩:=yl ok l h d q (by omega);obtain⟨r,w⟩:=Mj (ok.nd i x s l h) h m d;have key:(fJ c t M x s).2.N.length+ (if i=0/\x::rn≠[] then 16 else 0)<=M.N.length+19+51 * (if x.op=21 then 1 else 0):=by
   unfold jE at r;by_cases f:i=0
   .rw [if_pos ⟨f,by simp⟩];have:=w f;omega
   .rw [if_neg (by simp [f])];split at r
    .rename_i e;rw [if_pos e];omega
    .rename_i e;rw [if_neg e];omega
  rw [ft,mV,Nf];split
  .omega
  .rename_i B;have v:=Ci ok q m rn rs (i+1) _ _ u j (by omega) st (by omega);rw [if_neg (by omega)] at v;omega
theorem wO(need:List Bool):∀(r:List Nd) (i:Nat) (to:List Int) (out:List Nd),(dA need i r to out).2.length<=out.length+r.length
 | [],i,to,out=>by simp [dA]
 | x::r,i,to,out=>by
  rw [dA];split
  .refine NQ (wO need r (i+1) _ _) ?_;simp;omega
  .refine NQ (wO need r (i+1) to out) ?_;simp
theorem MM(N:List Nd)(hold:List Int):(hJ N hold).1.length<=N.length:=by have:=wO (back N (dG (List.replicate N.length false) hold) N.length) N 0 (List.replicate N.length 0) [];rw [Nw,NF] at this;exact this
theorem Ma{a:As}(h:(br a).2.1=0)(r:a.ns.length < 9)(i:∀s∈(br a).1,aF s=true->s<=13)(m:mV a.ns < 2)(g:jr a=true):lF a=false:=by
 obtain⟨ok,n⟩:=qx (es:=(br a).1.isEmpty) h;have o:(cM a.ds).size<=12:=rE (show ∀d∈a.ds,d.nm.size<=12 from ok.ds) 11 us (by rw [dW];omega);have j:=Ci (c:=mf a) ok (by show(cM a.ds).size<=100;omega) (λk s f=>i s (Nh f)) a.ns (br a).1 0 ⟨[],[]⟩ ⟨[],[]⟩ rfl rfl (OY _) ⟨CS,rfl,rfl,λk s f=>by omega,λk s f=>by omega⟩ (by simp);have b:(fU a).2.N.length<=200:=by
  unfold fU;refine NQ j ?_;by_cases e:a.ns= []
  .rw [e];simp [mV]
  .rw [if_pos ⟨rfl,e⟩,Nw];omega
 have l:=MM (fU a).2.N ((mf a).hs.map (bm (fU a).1));have q:(lU a).1.length<=200:=NQ l b;unfold lF;rw [g,decide_eq_false (show ¬800 < (fU a).2.N.length by omega),decide_eq_false (show ¬200 < (lU a).1.length by omega)];simp
open Go Go.Aev Go.IntKind
theorem Io{k:Nat}(h:k < 10):it (k:Int)=ByteArray.mk #[UInt8.ofNat (48+k)]:=by apply qv;rw [ma,nX,Go.Lib.decDigits,dif_pos h]
theorem xX{k:Nat}(h:k < 10):Or (.call 43) [I (k:Int)] []=some [T.str (it (k:Int))]:=by
 rw [Io h];have e:∀j:_root_.Fin 10,(ByteArray.mk #[(48:UInt8),49,50,51,52,53,54,55,56,57]).extract ((j.val:Nat):Int).toNat (i64.wrap (((j.val:Nat):Int)+1)).toNat=ByteArray.mk #[UInt8.ofNat (48+j.val)]:=by decide+kernel
 have d:(k:Int) < 10:=by omega
 have b:eZ (k:Int) (i64.wrap ((k:Int)+1)) (10:Int)=some ():=by rw [next k (by omega)];unfold eZ;rw [if_pos ⟨by omega,by omega,by omega⟩]
 have c:=e ⟨k,h⟩;refine ah ?_;rw [Ag];simp only [decide_eq_true d,bt];rw [show((↑10:Int))= (10:Int) from rfl,b,bu,c]
theorem FX{k:Nat}(h:¬k < 10):Go.Lib.decDigits (k / 10)++Go.Lib.decDigits (k % 10)=Go.Lib.decDigits k:=by
 have d:k % 10 < 10:=by omega
 have b:Go.Lib.decDigits k=Go.Lib.decDigits (k / 10)++ [UInt8.ofNat (48+k % 10)]:=by
  conv=>lhs;rw [Go.Lib.decDigits]
  rw [dif_neg h]
 have c:Go.Lib.decDigits (k % 10)= [UInt8.ofNat (48+k % 10)]:=by rw [Go.Lib.decDigits,dif_pos d]
 rw [b,c]
theorem xW{k:Nat}(h:k < 100):Or (.call 43) [I (k:Int)] []=some [T.str (it (k:Int))]:=by
 by_cases b:k < 10
 .exact xX b
 .have d:((k:Int).tdiv 10)= ((k / 10:Nat):Int):=by rw [Int.tdiv_eq_ediv_of_nonneg (by omega)];omega
  have f:((k:Int).tmod 10)= ((k % 10:Nat):Int):=by rw [Int.tmod_eq_emod_of_nonneg (by omega)];omega
  have i:=xX (k:=k / 10) (by omega);have j:=xX (k:=k % 10) (by omega);have g:¬(k:Int) < 10:=by omega
  have m:=fq (n:=((k / 10:Nat):Int)) ⟨by omega,by omega⟩;have o:=fq (n:=((k % 10:Nat):Int)) ⟨by omega,by omega⟩;have c:(it ((k / 10:Nat):Int)).size+ (it ((k % 10:Nat):Int)).size<=4294967296:=by omega
  have e3:it ((k / 10:Nat):Int)++it ((k % 10:Nat):Int)=it (k:Int):=by apply qv;rw [l9,ma,ma,ma,nX,nX,nX,FX b]
  have l:i64.wrap ((k / 10:Nat):Int)= ((k / 10:Nat):Int):=wr (by omega);refine ah ?_;rw [Ag];simp only [decide_eq_false g,bB,d,f,l,i,j,bu,bA,eT,if_pos c,e3]
theorem Jn{a:As}{p:ByteArray}(hl:a.ds.length<=1000):∀(r:List Dc) (i:Nat),a.ds.drop i=r->Or se [AV.t (T.str p),r0,I (i:Int)] [gI a]=some [tb (r.any λd=>hH d.nm p)]:=by
 intro r;induction r with
 | nil=>
  intro i g;have b:¬(i:Int) < (a.ds.length:Int):=by have:=bx g;omega
  refine ah ?_;rw [sU];simp only [aj,↓reduceIte,Int.reduceBEq,Int.reduceEq,ca,b,List.any_nil]
 | cons d r v=>
  intro i g;obtain⟨k,w,q⟩:=bz g;have b:(i:Int) < (a.ds.length:Int):=by omega
  have h0: 0<=(i:Int):=by omega
  have f:=v (i+1) q;have x:=nE d.nm;have r1: 0<=(i:Int)/\(i:Int) < (a.ds.length:Int):=⟨h0,b⟩;have o:((p.size:Nat):Int).toNat=p.size:=rfl;rw [List.any_cons];by_cases h:(d.nm.size:Int) > (p.size:Int)
  .have j:eZ 0 (p.size:Int) (d.nm.size:Int)=some ():=by unfold eZ;rw [if_pos ⟨by omega,by omega,by omega⟩]
   have n:p.size < d.nm.data.toList.length:=by omega
   have l:d.nm.data.toList[p.size]? =some d.nm.data.toList[p.size]:=Nc n;have s: 0<=(p.size:Int)/\(p.size:Int) < (d.nm.size:Int):=by omega
   have m:(d.nm.size:Int)>=(p.size:Int):=by omega
   generalize d.nm.data.toList[p.size]=u at l;by_cases e:d.nm.extract 0 p.size=p
   .have c:hH d.nm p= (decide ((u.toNat:Int)>=48) && decide ((u.toNat:Int)<=57)):=by
     unfold hH iL;rw [l,decide_eq_true m,decide_eq_true e];rfl
    rw [c];refine ah ?_;rw [sU];simp only [bu,bA,cC,jg,bG,eT,bt,bB,if_pos r1,if_pos s,ca,dv k,decide_eq_true b,decide_eq_true h,j,o,mX,decide_eq_true e,l,next i (show i<=1000000 by omega)];cases decide ((u.toNat:Int)>=48) with
    | false=>simp only [bB,OG,NT];exact f
    | true=>
     cases decide ((u.toNat:Int)<=57) with
     | false=>simp only [bt,bB,N1,NT];exact f
     | true=>simp only [bt,N1,Bool.true_or]
   .have c:hH d.nm p=false:=by
     unfold hH iL;rw [decide_eq_false e,Oc,OG]
    rw [c];refine ah ?_;rw [sU];simp only [bu,bo,bA,cC,jg,bG,eT,bt,bB,if_pos r1,ca,dv k,decide_eq_true b,decide_eq_true h,j,o,mX,decide_eq_false e,next i (show i<=1000000 by omega),NT];exact f
  .have c:hH d.nm p=false:=by
    have:d.nm.data.toList[p.size]? =none:=Ov (by omega);unfold hH;rw [this,Oc]
   rw [c];refine ah ?_;rw [sU];simp only [bu,bo,bA,cC,jg,bG,eT,bt,bB,if_pos r1,ca,dv k,decide_eq_true b,decide_eq_false h,next i (show i<=1000000 by omega),NT];exact f
theorem DT{a:As}{p:ByteArray}(hl:a.ds.length<=1000):Or (.call 42) [AG a,AV.t (T.str p)] []=some [tb (fR a.ds p)]:=by have h:=Jn (a:=a) (p:=p) hl a.ds 0 rfl;refine ah ?_;rw [Gm];exact h
theorem tQ{p:ByteArray}{k:Nat}:∀(n b:Nat),eS p k b n false=false
 | 0,_=>rfl
 | n+1,b=>by rw [eS,OG];exact tQ n (b+1)
theorem tR{p:ByteArray}:∀(ds:List Dc) (k:Nat),cD p k ds false=false
 | [],_=>rfl
 | d::r,k=>by
  rw [cD];split
  .rw [tQ];exact tR r (k+1)
  .exact tR r (k+1)
section
variable {a:As} {p:ByteArray}
theorem tI{k w:Nat}{d:Dc}(y:p.size<=100)(u:k < 100)(z:w<=8){R:List T}:∀(n b:Nat) (acc:List Dc),b+n=w->acc.length+n<=100000->
  (eS p k b n true=true->Or kN [r0,AV.t (T.str p),o1,I ((k+1:Nat):Int)] [gI a,ab.sl false 3 false (aI (acc++dz p k d b n))]=some R)->(eS p k b n true=false->R= [T.af true,tb false])->
  Or jZ [r0,AV.t (T.str p),o1,I (k:Int),AV.ref (Id.c 2) 0,I (w:Int),I (b:Int)] [gI a,ab.sl false 3 false (aI acc),ab.box [AV.t (T.str d.nm),AV.t (T.ad 1 d.ea (enc d.ar)),I d.so]]=some R:=by
 have A:=fq (n:=(k:Int)) ⟨by omega,by omega⟩;intro n;induction n with
 | zero=>
  intro b acc s hl f g;have j:¬(b:Int) < (w:Int):=by omega
  have f:=f rfl;rw [dz,Nz] at f;refine ah ?_;rw [vB];simp only [aj,↓reduceIte,Int.reduceBEq,Int.reduceEq,j,next k (by omega)];exact f
 | succ n x=>
  intro b acc s hl f g;have j:(b:Int) < (w:Int):=by omega
  have B:=fq (n:=(b:Int)) ⟨by omega,by omega⟩;have l:p.size+ (it (k:Int)).size<=4294967296:=by omega
  have m:(p++it (k:Int)).size+1<=4294967296:=by rw [Np];omega
  have c3:(p++it (k:Int)++us).size+ (it (b:Int)).size<=4294967296:=by simp only [Np,dW];omega
  have o:=xW u;have q:=xW (k:=b) (by omega);have es:aI acc++ [[T.str (p++it (k:Int)++us++it (b:Int)),T.ad 1 d.ea (enc d.ar),T.int i64 1]]=aI (acc++ [⟨p++it (k:Int)++us++it (b:Int),d.ea,d.ar,1⟩]):=we acc ⟨_,d.ea,d.ar,1⟩;rw [dz] at f;rw [eS] at f g;by_cases hs:((p++it (k:Int)++us++it (b:Int)).size:Int)<=12
  .have i:¬((p++it (k:Int)++us++it (b:Int)).size:Int) > 12:=by omega
   rw [decide_eq_true hs,Og] at f g;have v:=x (b+1) (acc++ [⟨p++it (k:Int)++us++it (b:Int),d.ea,d.ar,1⟩]) (by omega) (by simp;omega) (λh=>by have:=f h;simpa only [Nx,ND] using this) g;refine ah ?_;rw [vB];simp only [aj,↓reduceIte,Int.reduceBEq,Int.reduceEq,j,o,q,l,m,c3,i,ca,Nk,cS (show acc.length+1<=1000000 by omega),next b (by omega),es];exact v
  .have i:((p++it (k:Int)++us++it (b:Int)).size:Int) > 12:=by omega
   rw [decide_eq_false hs,Oc] at g;have r:=g (tQ n (b+1));subst r;refine ah ?_;rw [vB];simp only [aj,↓reduceIte,Int.reduceBEq,Int.reduceEq,j,o,q,l,m,c3,i]
def ik(p:ByteArray)(k:Nat)(r acc:List Dc):List T:=
 if cD p k r true then [T.ad 3 false (aI (acc++bS p k r)),tb (decide ((((acc++bS p k r).length:Nat):Int)<=30))] else [T.af true,tb false]
theorem Cr(n:p.size<=100)(hl:a.ds.length < 100):∀(r:List Dc) (k:Nat) (acc:List Dc),a.ds.drop k=r->k<=a.ds.length->acc.length<=100 * k->
  Or kN [r0,AV.t (T.str p),o1,I (k:Int)] [gI a,ab.sl false 3 false (aI acc)]=some (ik p k r acc):=by
 intro r;induction r with
 | nil=>
  intro k acc g v u;have c:¬(k:Int) < (a.ds.length:Int):=by have:=bx g;omega
  unfold ik;rw [bS,cD,Nz,if_pos rfl];refine ah ?_;rw [vE];simp only [aj,↓reduceIte,Int.reduceBEq,Int.reduceEq,ca,c]
 | cons d r s=>
  intro k acc g v u;obtain⟨l,y,m⟩:=bz g;have c:(k:Int) < (a.ds.length:Int):=by omega
  have h0: 0<=(k:Int):=by omega
  have b:=uu d.so;cases f:aF d.so with
  | false=>
   rw [f] at b;have j:=s (k+1) (acc++ [d]) m (by omega) (by simp;omega);have e:ik p k (d::r) acc=ik p (k+1) r (acc++ [d]):=by unfold ik;rw [cD,bS,f];simp only [NA,↓reduceIte,Nx]
   rw [e];have i:=tI (a:=a) (p:=p) (k:=k) (w:=0) (d:=d) n (by omega) (by omega) (R:=ik p (k+1) r (acc++ [d])) 0 0 (acc++ [d]) rfl (by simp;omega) (λ_=>by rw [dz,Nz];exact j) (λh=>by cases h);refine ah ?_;rw [vE];simp only [aj,↓reduceIte,Int.reduceBEq,Int.reduceEq,h0,c,and_self,ca,dv l,b,NA,Nk,cS (show acc.length+1<=1000000 by omega),we];exact i
  | true=>
   rw [f] at b;have x:=e8 f;have o:(dI d.so:Int)≠0:=by unfold dI;omega
   have q:((dI d.so:Int)==0)=false:=by simpa using o
   have j:=s (k+1) (acc++dz p k d 0 (dI d.so)) m (by omega) (by rw [N6,qt];unfold dI;omega);have e:ik p k (d::r) acc=if eS p k 0 (dI d.so) true then ik p (k+1) r (acc++dz p k d 0 (dI d.so)) else [T.af true,tb false]:=by
    unfold ik;rw [cD,bS,f];simp only [↓reduceIte];show(if cD p (k+1) r (eS p k 0 (dI d.so) true)=true then _ else _)=_;cases eS p k 0 (dI d.so) true with
    | false=>rw [tR];rfl
    | true=>rw [if_pos rfl];simp only [Nx];rfl
   have i:=tI (a:=a) (p:=p) (k:=k) (w:=dI d.so) (d:=d) n (by omega) (by unfold dI;omega) (R:=ik p k (d::r) acc) (dI d.so) 0 acc (by omega) (by unfold dI;omega) (λh=>by rw [e,h,if_pos rfl];exact j) (λh=>by rw [e,h];rfl);refine ah ?_;rw [vE];simp only [bu,bA,cC,jg,mh,mi,bG,eT,dP,bt,bB,decide_eq_true c,if_pos (⟨h0,c⟩: 0<=(k:Int)/\(k:Int) < (a.ds.length:Int)),ca,dv l,b,↓reduceIte,q];exact i
theorem IU(q:p.size<=100)(hl:a.ds.length < 100):∃x ok,Or kN [r0,AV.t (T.str p),AV.t (T.af true),I 0] [gI a]=some [x,tb ok]/\ok= (cD p 0 a.ds true && decide ((((bS p 0 a.ds).length:Nat):Int)<=30))/\(cD p 0 a.ds true=true->∃e,x.au 3=some (e,aI (bS p 0 a.ds)))/\(x.au 3).isSome=true:=by
 have v:∀{k:Nat} {r acc:List Dc} {R:List T},R=ik p k r acc->cD p 0 a.ds true=cD p k r true->bS p 0 a.ds=acc++bS p k r->∃x ok,R= [x,tb ok]/\ok= (cD p 0 a.ds true && decide ((((bS p 0 a.ds).length:Nat):Int)<=30))/\(cD p 0 a.ds true=true->∃e,x.au 3=some (e,aI (bS p 0 a.ds)))/\(x.au 3).isSome=true:=by
  intro k r acc R c f N;rw [f,N,c];unfold ik;cases cD p k r true with
  | true=>exact⟨_,_,rfl,rfl,λ_=>⟨_,rfl⟩,rfl⟩
  | false=>exact⟨_,_,rfl,rfl,λh=>(by cases h),rfl⟩
 cases b:a.ds with
 | nil=>
  refine⟨T.af true,true,ah ?_,by simp [cD,bS],λ_=>⟨true,rfl⟩,rfl⟩;have f:¬(0:Int) < (a.ds.length:Int):=by rw [b];simp
  rw [vD];simp only [aj,↓reduceIte,Int.reduceBEq,Int.reduceEq,ca,f]
 | cons d r=>
  have M:a.ds[0]? =some d:=by rw [b];rfl
  have f:(0:Int) < (a.ds.length:Int):=by rw [b];simp
  have h0: 0<=(0:Int):=by omega
  have j:=uu d.so;have G:(aI a.ds)[(0:Int).toNat]? =some [T.str d.nm,T.ad 1 d.ea (enc d.ar),ti d.so]:=dv (i:=0) M;rw [<-b];cases g:aF d.so with
  | false=>rw [g] at j;have u:=Cr (a:=a) q hl r 1 [d] (by rw [b];rfl) (by rw [b];simp) (by simp);have o:=tI (a:=a) (p:=p) (k:=0) (w:=0) (d:=d) q (by omega) (by omega) (R:=ik p 1 r [d]) 0 0 [d] rfl (by simp) (λ_=>by rw [dz,Nz];exact u) (λh=>by cases h);obtain⟨x,ok,c,A,B,C⟩:=v (k:=1) (r:=r) (acc:= [d]) rfl (by rw [b,cD,g];rfl) (by rw [b,bS,g];rfl);rw [c] at o;refine⟨x,ok,ah ?_,A,B,C⟩;rw [vD];simp only [aj,↓reduceIte,Int.reduceBEq,Int.reduceEq,h0,f,and_self,ca,G,j,NA,Oc];exact o
  | true=>
   rw [g] at j;have S:=e8 g;obtain⟨n,l⟩:∃n,dI d.so=n+1:=⟨dI d.so - 1,by unfold dI;omega⟩;have K:((dI d.so:Int)==0)=false:=by rw [l];simp;omega
   have J:n+1<=8:=by unfold dI at l;omega
   have U:=fq (n:=((0:Nat):Int)) ⟨by omega,by omega⟩;have E:p.size+ (it ((0:Nat):Int)).size<=4294967296:=by omega
   have F:(p++it ((0:Nat):Int)).size+1<=4294967296:=by rw [Np];omega
   have c3:(p++it ((0:Nat):Int)++us).size+ (it ((0:Nat):Int)).size<=4294967296:=by simp only [Np,dW];omega
   have L:=xW (k:=0) (by omega);have u:=Cr (a:=a) q hl r 1 (dz p 0 d 0 (n+1)) (by rw [b];rfl) (by rw [b];simp) (by rw [qt];omega);have e:∃R,R= (if eS p 0 0 (n+1) true then ik p 1 r (dz p 0 d 0 (n+1)) else [T.af true,tb false])/\∃x ok,R= [x,tb ok]/\ok= (cD p 0 a.ds true && decide ((((bS p 0 a.ds).length:Nat):Int)<=30))/\(cD p 0 a.ds true=true->∃e,x.au 3=some (e,aI (bS p 0 a.ds)))/\(x.au 3).isSome=true:=by
    refine⟨_,rfl, ?_⟩;have y:(d.so - 10).toNat=n+1:=l;have O:bS p 0 a.ds=dz p 0 d 0 (n+1)++bS p 1 r:=by rw [b,bS,g,if_pos rfl,y]
    have z:cD p 0 a.ds true=cD p 1 r (eS p 0 0 (n+1) true):=by rw [b,cD,g,if_pos rfl,y]
    cases H:eS p 0 0 (n+1) true with
    | true=>rw [if_pos rfl];exact v (k:=1) (r:=r) (acc:=dz p 0 d 0 (n+1)) rfl (by rw [z,H]) O
    | false=>rw [H,tR] at z;rw [z];exact⟨_,_,rfl,rfl,λh=>(by cases h),rfl⟩
   obtain⟨R,c,x,ok,P,A,B,C⟩:=e;rw [eS,dz] at c;refine⟨x,ok,ah ?_,A,B,C⟩;rw [<-P];have s:Or jZ [r0,AV.t (T.str p),AV.t (T.af true),I 0,r1,I (dI d.so:Int),I 0] [gI a,ab.box [AV.t (T.str d.nm),AV.t (T.ad 1 d.ea (enc d.ar)),I d.so]]=some R:=by
    have D:(0:Int) < (dI d.so:Int):=by rw [l];omega
    by_cases hs:((p++it ((0:Nat):Int)++us++it ((0:Nat):Int)).size:Int)<=12
    .have m:¬((p++it ((0:Nat):Int)++us++it ((0:Nat):Int)).size:Int) > 12:=by omega
     rw [decide_eq_true hs,Og] at c;rw [dz] at u;have o:=tI (a:=a) (p:=p) (k:=0) (w:=n+1) (d:=d) q (by omega) J (R:=R) n 1 [⟨p++it ((0:Nat):Int)++us++it ((0:Nat):Int),d.ea,d.ar,1⟩] (by omega) (by simp;omega) (λh=>by rw [c,if_pos h];exact u) (λh=>by rw [c,h];rfl);rw [<-l] at o;refine ah ?_;rw [zF];have Q:i64.wrap (0+1)= ((1:Nat):Int):=by decide
     simp only [aj,↓reduceIte,Int.reduceBEq,Int.reduceEq,D,show Or (.call 43) [I 0] []=_ from L,E,F,c3,m,Oc,Q];exact o
    .have m:((p++it ((0:Nat):Int)++us++it ((0:Nat):Int)).size:Int) > 12:=by omega
     rw [decide_eq_false hs,Oc,tQ] at c;rw [c];refine ah ?_;rw [zF];simp only [aj,↓reduceIte,Int.reduceBEq,Int.reduceEq,D,show Or (.call 43) [I 0] []=_ from L,E,F,c3,m];rfl
   rw [vD];simp only [bu,bA,cC,jg,mh,mi,bG,eT,dP,bt,bB,decide_eq_true f,if_pos (⟨h0,f⟩: 0<=(0:Int)/\(0:Int) < (a.ds.length:Int)),ca,G,j,↓reduceIte,K];exact s
end
theorem Cs{a:As}(hl:a.ds.length < 100)(f:∀d∈a.ds,d.nm.size<=12){R:List T}:∀(k:Nat) (p:ByteArray),12<=p.size+k->p.size<=12->Or kN [r0,AV.t (T.str (gT a.ds k p)),AV.t (T.af true),I 0] [gI a]=some R->Or r9 [r0,AV.t (T.str p)] [gI a]=some R
 | 0,p,j,l,c=>by
  have nt:fR a.ds p=false:=by
   cases h:fR a.ds p with
   | false=>rfl
   | true=>have:=p7 f h;omega
  have b:=DT (a:=a) (p:=p) (by omega);rw [nt] at b;rw [gT] at c;refine ah ?_;rw [vC];simp only [aj,↓reduceIte,Int.reduceBEq,Int.reduceEq,b];exact c
 | k+1,p,j,l,c=>by
  have b:=DT (a:=a) (p:=p) (by omega);rw [gT] at c;cases g:fR a.ds p with
  | false=>rw [g] at b c;refine ah ?_;rw [vC];simp only [aj,↓reduceIte,Int.reduceBEq,Int.reduceEq,b];exact c
  | true=>
   rw [g] at b c;have:=p7 f g;have m:=Cs hl f k (p++us) (by rw [Np,dW];omega) (by rw [Np,dW];omega) c;have i:p.size+1<=4294967296:=by omega
   refine ah ?_;rw [vC];simp only [aj,↓reduceIte,Int.reduceBEq,Int.reduceEq,b,i];exact m
theorem KL{a:As}(hl:a.ds.length < 100)(b:∀d∈a.ds,d.nm.size<=12):∃x,Or (.call 17) [AG a] []=some [x,tb (jr a)]/\(jr a=true->∃e,x.au 3=some (e,aI (kV a)))/\(x.au 3).isSome=true:=by
 have j:(cM a.ds).size<=12:=rE b 11 us (by rw [dW];omega);obtain⟨x,ok,c,f,g,i⟩:=IU (a:=a) (p:=cM a.ds) (by omega) hl;have h:=Cs hl b 11 us (by rw [dW];omega) (by rw [dW];omega) c;subst f;refine⟨x,ah ?_,λho=>g ?_,i⟩
 .rw [F7];exact h
 .unfold jr at ho;rw [M7] at ho;exact ho.1
def kI(n:Nat):Nat->List Nd->List Int->Bool
 | t,x::r,s::q=>if 3 < (if aF s=true then dI s else 0) then false else kI n (if x.op=21 then t+1 else t) r q
 | t,_,_=>decide (n < 9) && decide (t < 2)
theorem IV{a:As}{es:Bool}{ss:List Int}(F:a.ns.length<=1000)(hl:ss.length=a.ns.length):∀(r:List Nd) (q:List Int) (i t:Nat),a.ns.drop i=r->ss.drop i=q->t<=i->Or qe [ad es ss,r0,I (t:Int),I (i:Int)] [gI a]=some [tb (kI a.ns.length t r q)]:=by
 intro r;induction r with
 | nil=>
  intro q i t g j D;have f:¬(i:Int) < (a.ns.length:Int):=by have:=bx g;omega
  have e:kI a.ns.length t [] q= (decide ((a.ns.length:Int) < 9) && decide ((t:Int) < 2)):=by
   have B:decide ((a.ns.length:Int) < 9)=decide (a.ns.length < 9):=by simp;omega
   have C:decide ((t:Int) < 2)=decide (t < 2):=by simp;omega
   rw [B,C];cases q <;> rfl
  rw [e];refine ah ?_;rw [sS];simp only [cK,decide_eq_false f,bB];cases decide ((a.ns.length:Int) < 9) <;> rfl
 | cons x r w=>
  intro q i t g j D;obtain⟨o,E,u⟩:=bz g;cases q with
  | nil=>have:=bx j;omega
  | cons s q=>
   obtain⟨n,G,A⟩:=bz j;have f:(i:Int) < (a.ns.length:Int):=by omega
   have h:(i:Int) < (ss.length:Int):=by omega
   have h0: 0<=(i:Int):=by omega
   have b:=uu s;have e3:(if aF s=true then((dI s:Nat):Int) else 0)= (((if aF s=true then dI s else 0):Nat):Int):=by split <;> rfl
   rw [e3] at b;rw [kI];generalize (if aF s=true then dI s else 0)=m at b;by_cases v: 3 < m
   .have d:(m:Int) > 3:=by omega
    rw [if_pos v];refine ah ?_;rw [sS];simp only [bu,bA,bG,cK,aD,decide_eq_true f,decide_eq_true h,bt,if_pos (⟨h0,h⟩: 0<=(i:Int)/\(i:Int) < (ss.length:Int)),bC n,b,decide_eq_true d]
   .have d:¬(m:Int) > 3:=by omega
    rw [if_neg v];have y:=(if_pos (⟨h0,f⟩: 0<=(i:Int)/\(i:Int) < (a.ns.length:Int)):(if 0<=(i:Int)/\(i:Int) < (a.ns.length:Int) then some () else none)=_);have z:=(if_pos (⟨h0,h⟩: 0<=(i:Int)/\(i:Int) < (ss.length:Int)):(if 0<=(i:Int)/\(i:Int) < (ss.length:Int) then some () else none)=_);by_cases c:x.op=21
    .rw [if_pos c];have l:=w q (i+1) (t+1) u A (by omega);have k:(x.op==21)=true:=by simpa using c
     refine ah ?_;rw [sS];simp only [bu,bA,bG,cK,aD,decide_eq_true f,decide_eq_true h,bt,bB,y,z,bC n,ew o,b,decide_eq_false d,k,next t (show t<=1000000 by omega),next i (show i<=1000000 by omega)];exact l
    .rw [if_neg c];have l:=w q (i+1) t u A (by omega);have k:(x.op==21)=false:=by simpa using c
     refine ah ?_;rw [sS];simp only [bu,bA,bG,cK,aD,decide_eq_true f,decide_eq_true h,bt,bB,y,z,bC n,ew o,b,decide_eq_false d,k,next i (show i<=1000000 by omega)];exact l
theorem KM{a:As}{es:Bool}{ss:List Int}(b:a.ns.length<=1000)(hl:ss.length=a.ns.length):Or (.call 18) [AG a,ad es ss] []=some [tb (kI a.ns.length 0 a.ns ss)]:=by have h:=IV (a:=a) (es:=es) (ss:=ss) b hl a.ns ss 0 0 rfl rfl (Ns _);refine ah ?_;rw [F8];exact h
theorem D3{n:Nat}:∀{r:List Nd} {q:List Int} {t:Nat},q.length=r.length->kI n t r q=true->n < 9/\t+mV r < 2/\∀s∈q,aF s=true->s<=13
 | [],[],t,_,h=>by simp only [kI,M7,decide_eq_true_eq] at h;exact⟨h.1,by simpa [mV] using h.2,λs hs=>by cases hs⟩
 | [],_::_,t,hl,_=>by simp at hl
 | _::_,[],t,hl,_=>by simp at hl
 | x::r,s::q,t,hl,h=>by
  rw [kI] at h;by_cases b: 3 < (if aF s=true then dI s else 0)
  .rw [if_pos b] at h;cases h
  .rw [if_neg b] at h;obtain⟨f,g,i⟩:=D3 (by simpa using hl) h;refine⟨f, ?_,λy c d=> ?_⟩
   .rw [mV];split at g
    .rename_i e;rw [if_pos e];omega
    .rename_i e;rw [if_neg e];omega
   .rcases Nj.1 c with rfl | c
    .rw [if_pos d] at b;unfold dI at b;omega
    .exact i y c d
open Go Go.Aev Go.IntKind
theorem KJ(x y:Int):Or (.call 14) [I x,I y] []=some [ti x,ti y]:=by refine ah ?_;rw [F5]
theorem zq{p:ByteArray}:∀(ds:List Dc) (k:Nat),(∀d∈ds,aF d.so=false)->bS p k ds=ds
 | [],_,_=>rfl
 | d::r,k,h=>by rw [bS,if_neg (by rw [h d M3];decide),zq r (k+1) λx b=>h x (M4 _ b)];rfl
theorem CV{p:ByteArray}:∀(ds:List Dc) (k:Nat) (ok:Bool),(∀d∈ds,aF d.so=false)->cD p k ds ok=ok
 | [],_,_,_=>rfl
 | d::r,k,ok,h=>by rw [cD,if_neg (by rw [h d M3];decide),CV r (k+1) ok λx b=>h x (M4 _ b)]
theorem CG{a:As}(h:ja a=false):∀d∈a.ds,aF d.so=false:=by unfold ja ot at h;rw [OF] at h;exact λd b=>by simpa using NV.1 h.2 d b
theorem zx{a:As}(h:ja a=false):kV a=a.ds:=zq _ _ (CG h)
theorem J1{a:As}(h:ja a=false)(hl:a.ds.length<=30):jr a=true:=by unfold jr;rw [zx h,CV _ _ _ (CG h),N1,decide_eq_true_eq];omega
theorem Fh(a:As):(bF a).ds=kV a:=by
 unfold bF;cases h:ja a with
 | true=>rfl
 | false=>exact(zx h).symm
theorem Jp{b:As}{τ:List Int}{e:Bool}(x:b.ns.length<=1000)(hl:τ.length=b.ns.length)(o:∀s∈τ,aF s=false)(ho:∀y∈b.ns,y.op < 15\/23 < y.op):∀(r:List Int) (k:Nat),τ.drop k=r->Or sn [r0,ad e τ,I (k:Int)] [gI b]=some [tb true]:=by
 intro r;induction r with
 | nil=>
  intro k g;have c:¬(k:Int) < (τ.length:Int):=by have:=bx g;omega
  refine ah ?_;rw [Aj];simp only [aj,↓reduceIte,Int.reduceBEq,Int.reduceEq,aD,c]
 | cons s r q=>
  intro k g;obtain⟨h,w,m⟩:=bz g;have c:(k:Int) < (τ.length:Int):=by omega
  have n:(k:Int) < (b.ns.length:Int):=by omega
  have h0: 0<=(k:Int):=by omega
  have i:b.ns[k]? =some b.ns[k]:=Nc (by omega);have d:=ho _ (Pb (by omega:k < b.ns.length));have f:=uu s;rw [o s (Nh h),if_neg (by decide)] at f;have t:(if 0<=(k:Int)/\(k:Int) < (τ.length:Int) then some () else none)=some ():=if_pos ⟨h0,c⟩;have u:(if 0<=(k:Int)/\(k:Int) < (b.ns.length:Int) then some () else none)=some ():=if_pos ⟨h0,n⟩;have v:decide ((0:Int) > 0)=false:=by decide
  have l:=q (k+1) m;generalize b.ns[k]=y at i d;refine ah ?_;rw [Aj];simp only [bu,bA,bG,cK,aD,decide_eq_true c,bt,t,u,bC h,f,v,Nb,ew i,bB,next k (show k<=1000000 by omega)];rcases d with j | j
  .rw [decide_eq_false (by omega:¬y.op>=15)];exact l
  .rw [decide_eq_false (by omega:¬y.op<=23)];cases decide (y.op>=15) <;> exact l
theorem Iq{a:As}(wf:lX a)(I:∀d∈a.ds,d.nm.size<=9223372036854775807)(u:Or (.call 6) [] []=some [tb true]):Or (.call 5) [AG a] []=some [tb true]:=by
 have f:=LS (a:=a) wf I;obtain⟨B,c,l⟩:=xV (a:=a) I;have r:=KK true true true;have z:=KJ 10 0;by_cases h:(br a).2.1=0
 .have s:=yf h;obtain⟨ok,Y⟩:=qx (es:=(br a).1.isEmpty) h;have G:a.ds.length<=30:=ok.dl;have Z:a.ns.length<=200:=ok.nl;have x:(br a).1.length=a.ns.length:=ok.sl;have H:∀d∈a.ds,d.nm.size<=12:=ok.ds;replace c:Or (.call 15) [AG a] []=some [B,ti (br a).2.1,ti (br a).2.2]:=c;rw [h,s] at c;obtain⟨x17,n,j,v⟩:=KL (a:=a) (by omega) H;have F:((0:Int)==0)=true:=rfl;have O:((10:Int)==0)=false:=rfl;have P:((10:Int)==10)=true:=rfl;have g:=FZ h;cases i:jr a with
  | false=>
   have o:ja a=true:=by
    cases o:ja a with
    | true=>rfl
    | false=>rw [J1 o G] at i;cases i
   have hm:lF a=true:=by unfold lF;rw [o,i];rfl
   rw [hm,if_pos rfl] at g;rw [g] at f;replace f:Or (.call 9) [AG a] []=some [T.af true,T.af true,T.af true,ti 10,ti 0]:=f;rw [i] at n;obtain⟨px,K⟩:=Ou.1 v;refine ah ?_;rw [e5];simp only [bu,bA,cC,jg,mh,mi,oT,eN,bG,cq,bt,bB,u,M8,Nb,f,c,l,F,O,P,n,K,z,Og,N1,fh,r]
  | true=>
   obtain⟨C,j⟩:=j i;rw [i] at n;cases hm:lF a with
   | true=>
    rw [hm,if_pos rfl] at g;rw [g] at f;replace f:Or (.call 9) [AG a] []=some [T.af true,T.af true,T.af true,ti 10,ti 0]:=f;have A:=KM (a:=a) (es:=(br a).1.isEmpty) (ss:=(br a).1) (by omega) x;have L:kI a.ns.length 0 a.ns (br a).1=false:=by
     cases hs:kI a.ns.length 0 a.ns (br a).1 with
     | false=>rfl
     | true=>obtain⟨V,q2,W⟩:=D3 x hs;rw [Ma h V W (by omega) i] at hm;cases hm
    rw [L] at A;refine ah ?_;rw [e5];simp only [bu,bA,cC,jg,mh,mi,oT,eN,bG,cq,bt,bB,u,M8,Nb,f,c,l,F,O,P,n,j,z,Og,N1,fh,r,A]
   | false=>
    rw [hm,if_neg (by decide)] at g;rw [g] at f;have t:=Fi wf h hm;have w:=Fh a;generalize bF a=b at t w f;obtain⟨τ,hs,y,o⟩:=t.so;obtain⟨okb,E⟩:=qx (a:=b) (es:=true) (by rw [hs]);have Q:b.ds.length<=30:=okb.dl;have X:b.ns.length<=200:=okb.nl;have J:∀d∈b.ds,d.nm.size<=12:=okb.ds;obtain⟨N,m,q⟩:=xV (a:=b) (λd g=>by have:=J d g;omega);replace m:Or (.call 15) [AG b] []=some [N,ti (br b).2.1,ti (br b).2.2]:=m;rw [hs] at m q;rw [<-w] at j;have M:=KN (e:=b.ed) (e':=C) (ds:=b.ds) (ds':=b.ds) rfl (by omega) (λd g=>by have:=E d g;omega) (λk d d' D s=>by rw [D] at s;cases s;exact⟨rfl,rfl,rfl⟩);have R:=Jp (b:=b) (τ:=τ) (e:=τ.isEmpty) (by omega) y o t.op τ 0 rfl;have S:(((b.hs.length:Nat):Int)== ((a.hs.length:Nat):Int))=true:=by rw [t.hl];simp
    have U:(((τ.length:Nat):Int)== ((b.ns.length:Nat):Int))=true:=by rw [y];simp
    refine ah ?_;rw [e5];simp only [bu,bA,cC,jg,mh,mi,oT,eN,bG,dP,cq,bt,bB,u,M8,Nb,f,c,l,F,n,j,m,q,fh,M,aD,cK,S,U];exact R
 .have D:((br a).2.1==0)=false:=by simpa using h
  have g:oS a= [T.af true,T.af true,T.af true,ti (br a).2.1,ti (br a).2.2]:=by unfold oS;rw [if_neg h]
  rw [g] at f;replace c:Or (.call 15) [AG a] []=some [B,ti (br a).2.1,ti (br a).2.2]:=c;refine ah ?_;rw [e5];simp only [bu,bA,cC,jg,mh,mi,oT,eN,bG,cq,bt,bB,u,M8,Nb,f,c,l,D,beq_self_eq_true,Og,fh,r]
end Go.Aev.Gen
