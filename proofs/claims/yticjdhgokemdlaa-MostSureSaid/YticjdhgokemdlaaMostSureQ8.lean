import Derived.Test.YticjdhgokemdlaaMostSureQ6
set_option linter.all false
namespace Go.Aev.Wd
open Go Go.Aev Go.Aev.Gen Go.IntKind
open Go Go.Aev Go.Aev.Gen
def val:List Int->Int
 | []=>0
 | a::r=>a+4294967296 * val r
def Dg(d:List Int):Prop:= ∀a∈d,0<=a/\a < 4294967296
def aN(d:List Int):List (List T):=d.map λa=> [T.int .u32 a]
theorem br(d:List Int):(aN d).length=d.length:=by simp [aN]
def be(d:List Int)(i:Nat):Int:=d.getD i 0
theorem dq{d:List Int}{i:Nat}(h:i < d.length):(aN d)[((i:Nat):Int).toNat]? =some [T.int .u32 (be d i)]:=by simp [aN,be,SV,h]
theorem gU:∀{d:List Int},Dg d->0<=val d
 | [],_=>WD _
 | a::d,h=>by have h1:=h a SW;have c:=gU (d:=d) λb hb=>h b (SY _ hb);simp only [val];omega
theorem il:∀(a b:List Int),val (a++b)=val a+4294967296 ^ a.length * val b
 | [],b=>by simp [val]
 | x::a,b=>by simp only [S7,val,il a b,Tr,VE,TG];rw [Ub,TW];omega
def lj(d:List Int):Nat->Nat
 | 0=>0
 | k+1=>if be d k=0 then lj d k else k+1
def eO(d:List Int):List Int:=d.take (lj d d.length)
theorem JQ(d:List Int):∀k,lj d k<=k
 | 0=>Tl _
 | k+1=>by
  rw [lj];split
  .have:=JQ d k;omega
  .exact Tl _
theorem JR{d:List Int}:∀k,k<=d.length->val (d.take (lj d k))=val (d.take k)
 | 0,_=>rfl
 | k+1,h=>by
  rw [lj];split
  .rename_i hz;rw [JR k (by omega),U7,il];have:d[k]? =some 0:=by
    have a:k < d.length:=by omega
    simp only [be,SV,SZ a,Ts] at hz;rw [SZ a,hz]
   rw [this];simp [val]
  .rfl
theorem sD(d:List Int):val (eO d)=val d:=by rw [eO,JR d.length (Tl _),Vt]
theorem fa(v:Int):u32.wrap v=v % 4294967296:=by simp [IntKind.wrap,IntKind.signed,IntKind.bits]
theorem qB(v:Int):u64.wrap v=v % 18446744073709551616:=by simp [IntKind.wrap,IntKind.signed,IntKind.bits]
def Can(d:List Int):Prop:= ∀k,d.length=k+1->be d k≠0
theorem JP{d:List Int}:∀k,k<=d.length->∀j,lj d k=j+1->be d j≠0
 | 0,_,j,h=>by cases h
 | k+1,a,j,h=>by
  rw [lj] at h;split at h
  .exact JP k (by omega) j h
  .rename_i hz;simp only [Nat.add_right_cancel_iff] at h;subst h;exact hz
theorem Li{d:List Int}{n k:Nat}(h:k < n):be (d.take n) k=be d k:=by simp only [be,SV,Vy,if_pos h]
theorem sC(d:List Int):Can (eO d):=by
 intro k a;have c:=JQ d d.length;have b:(eO d).length=lj d d.length:=by unfold eO;rw [T3];omega
 rw [b] at a;have:=JP d.length (Tl _) k a;unfold eO;rw [Li (by omega)];exact this
theorem pf{d:List Int}(h:Dg d):Dg (eO d):=λa b=>h a (Uy b)
def num(s:Bool)(d:List Int):Int:=if s=true then -val d else val d
structure lr (z:Int) (s:Bool) (d:List Int):Prop where
 dg:Dg d
 can:Can d
 sg:s=true->d≠[]
 z:num s d=z
def WI(z:Int)(x:T):Prop:= ∃s e d,x=T.ptr [tb s,T.ae 1 e (aN d)]/\lr z s d
theorem Ak{d:List Int}(h:Dg d)(f:Can d)(i:d≠[]): 0 < val d:=by
 have e:=gU h;rcases Int.lt_or_eq_of_le e with h1 | h1
 .exact h1
 .exfalso;have:∀d:List Int,Dg d->val d=0->∀k,be d k=0:=by
   intro d;induction d with
   | nil=>intro _ _ k;simp [be]
   | cons a d j=>
    intro h hv k;have l:=h a SW;have c:Dg d:=λb hb=>h b (SY _ hb);have:=gU c;simp only [val] at hv;cases k with
    | zero=>simp only [be,List.getD_cons_zero];omega
    | succ k=>have:=j c (by omega) k;simpa only [be,List.getD_cons_succ] using this
  have g:d.length= (d.length - 1)+1:=by have:=Wu.2 i;omega
  exact f _ g (this d h h1.symm _)
theorem bY{v:Int}(h: 0<=v/\v < 18446744073709551616):u64.wrap v=v:=by rw [qB];omega
theorem AK{d:List Int}{i:Nat}(hi:i < d.length)(v:Int):bT (i:Int).toNat 0 [T.int .u32 v] (aN d)=some (aN (d.set i v)):=by have h1:=dq hi;simp only [bT,h1];simp [bS,aN,VS]
abbrev lu(e:Bool)(d:List Int):AV:=AV.t (T.ae 1 e (aN d))
def fh:List Int->List Int->Int->List Int
 | [],_,c=> [c]
 | a::x,[],c=>((c+a) % 4294967296)::fh x [] ((c+a) / 4294967296)
 | a::x,b::y,c=>((c+a+b) % 4294967296)::fh x y ((c+a+b) / 4294967296)
theorem Dg.tail{a:Int}{d:List Int}(h:Dg (a::d)):Dg d:=λb hb=>h b (SY _ hb)
theorem yT:∀{x y:List Int} {c:Int},y.length<=x.length->val (fh x y c)=c+val x+val y
 | [],[],c,_=>by simp [fh,val]
 | [],b::y,c,h=>by simp at h
 | a::x,[],c,h=>by have:=yT (x:=x) (y:= []) (c:=(c+a) / 4294967296) (by simp);simp only [fh,val] at this⊢;rw [this];omega
 | a::x,b::y,c,h=>by have:=yT (x:=x) (y:=y) (c:=(c+a+b) / 4294967296) (by simpa using h);simp only [fh,val] at this⊢;rw [this];omega
theorem yR:∀{x y:List Int} {c:Int},Dg x->Dg y->0<=c/\c<=1->Dg (fh x y c)
 | [],_,c,_,_,f=>by intro a e;simp only [fh,Tc] at e;subst e;omega
 | a::x,[],c,d,hy,f=>by
  have h1:=d a SW;have:=yR (x:=x) (y:= []) (c:=(c+a) / 4294967296) d.tail hy (by omega);intro b hb;simp only [fh] at hb;rcases Tg.1 hb with rfl | hb
  .omega
  .exact this b hb
 | a::x,b::y,c,d,hy,f=>by
  have h1:=d a SW;have g:=hy b SW;have:=yR (x:=x) (y:=y) (c:=(c+a+b) / 4294967296) d.tail hy.tail (by omega);intro u hu;simp only [fh] at hu;rcases Tg.1 hu with rfl | hu
  .omega
  .exact this u hu
theorem yS:∀{x y:List Int} {c:Int},(fh x y c).length=x.length+1
 | [],_,c=>rfl
 | a::x,[],c=>by simp [fh,yS]
 | a::x,b::y,c=>by simp [fh,yS]
theorem yO(a:List Int)(b v:Int)(r:List Int)(i:Nat)(h:a.length=i):(a++b::r).set i v=a++v::r:=by subst h;simp
theorem lK{d:List Int}{i:Nat}{r:Int}{a:List Int}(h:d.drop i=r::a):be d i=r:=by obtain⟨b,_,_⟩:=bz h;simp [be,SV,b]
theorem nk{v:Int}:v.fdiv ((2:Int) ^ 32)=v / 4294967296:=by rw [show((2:Int) ^ 32)=4294967296 from by decide,Ui _ (by omega)]
theorem ja(n:Nat): 0 < (4294967296:Int) ^ n:=Int.pow_pos (by decide)
theorem kx:∀{d:List Int},Dg d->val d < 4294967296 ^ d.length
 | [],_=>by simp [val]
 | a::d,h=>by have h1:=h a SW;have b:=kx h.tail;simp only [val,Tr,VE];omega
theorem Dg.take{d:List Int}(h:Dg d)(n:Nat):Dg (d.take n):=λa b=>h a (Uy b)
theorem sK{d:List Int}{k:Nat}(a:k < d.length):val (d.take (k+1))=val (d.take k)+4294967296 ^ k * be d k:=by
 have:d.take (k+1)=d.take k++ [be d k]:=by rw [U7,SZ a];simp [be,SV,a]
 rw [this,il,T3,Xs (by omega)];simp [val]
theorem Ai{d:List Int}{k:Nat}(h:Dg d)(c:Can d)(b:d.length=k+1): 4294967296 ^ k<=val d:=by
 have h1:=sK (d:=d) (k:=k) (by omega);rw [<-b,Vt] at h1;have e:=c k b;have f:=gU (h.take k);have g: 0<=be d k:=by
  have a:k < d.length:=by omega
  have:be d k∈d:=by simp only [be,SV,SZ a,Ts];exact UA a
  exact(h _ this).1
 have i:(4294967296:Int) ^ k * 1<=4294967296 ^ k * be d k:=Ti (by omega) (Uz (ja k));omega
def ei(u v:Int):Int:=if u < v then -1 else if u=v then 0 else 1
theorem K5(u v w:Int):ei (u+w) (v+w)=ei u v:=by
 have h1:u+w < v+w↔u < v:=by omega
 have a:u+w=v+w↔u=v:=by omega
 unfold ei;simp only [h1,a]
theorem Ev{a b:List Int}{k:Nat}(f:Dg a)(hb:Dg b)(c:k < a.length)(d:k < b.length)(h:be a k < be b k):val (a.take (k+1)) < val (b.take (k+1)):=by rw [sK c,sK d];have h1:=kx (f.take k);rw [T3,Xs (by omega)] at h1;have g:=gU (hb.take k);have e:(4294967296:Int) ^ k * (be a k+1)<=4294967296 ^ k * be b k:=Ti (by omega) (Uz (ja k));rw [TG,Wq] at e;omega
theorem x8{a b:List Int}(c:Dg a)(hb:Dg b)(d:Can b)(h:a.length < b.length):val a < val b:=by
 have h1:=kx c;have e:=Ai (k:=b.length - 1) hb d (by omega);have f:(4294967296:Int) ^ a.length<=4294967296 ^ (b.length - 1):=by
  have:b.length - 1=a.length+ (b.length - 1 - a.length):=by omega
  rw [this,Wr];have g:(4294967296:Int) ^ a.length * 1<=4294967296 ^ a.length * 4294967296 ^ (b.length - 1 - a.length):=Ti (by have:=ja (b.length - 1 - a.length);omega) (Uz (ja _));omega
 omega
def cO(v:Int):Int:=if v < 0 then 1 else 0
def fu:List Int->List Int->Int->List Int
 | [],_,_=> []
 | a::x,[],c=>((a - c) % 4294967296)::fu x [] (cO (a - c))
 | a::x,b::y,c=>((a - c - b) % 4294967296)::fu x y (cO (a - c - b))
theorem BB:∀{x y:List Int} {c:Int},Dg x->Dg y->y.length<=x.length->0<=c/\c<=1->val y+c<=val x->val (fu x y c)=val x - val y - c
 | [],[],c,_,_,_,e,h=>by simp [fu,val] at h⊢;omega
 | [],b::y,c,_,_,h,_,_=>by simp at h
 | a::x,[],c,d,hy,f,e,h=>by have h1:=d a SW;simp only [val] at h;have:=BB (x:=x) (y:= []) (c:=cO (a - c)) d.tail hy (by simp) (by unfold cO;split <;> omega) (by simp only [val];unfold cO;split <;> omega);simp only [fu,val] at this⊢;rw [this];unfold cO;split <;> omega
 | a::x,b::y,c,d,hy,f,e,h=>by have h1:=d a SW;have g:=hy b SW;simp only [val] at h;have:=BB (x:=x) (y:=y) (c:=cO (a - c - b)) d.tail hy.tail (by simpa using f) (by unfold cO;split <;> omega) (by unfold cO;split <;> omega);simp only [fu,val] at this⊢;rw [this];unfold cO;split <;> omega
theorem Bz:∀{x y:List Int} {c:Int},Dg (fu x y c)
 | [],_,c=>by intro a d;simp [fu] at d
 | a::x,[],c=>by
  intro u hu;simp only [fu] at hu;rcases Tg.1 hu with rfl | hu
  .omega
  .exact Bz u hu
 | a::x,b::y,c=>by
  intro u hu;simp only [fu] at hu;rcases Tg.1 hu with rfl | hu
  .omega
  .exact Bz u hu
theorem BA:∀{x y:List Int} {c:Int},(fu x y c).length=x.length
 | [],_,c=>rfl
 | a::x,[],c=>by simp [fu,BA]
 | a::x,b::y,c=>by simp [fu,BA]
theorem A7{v:Int}(h: -1000000000000<=v/\v<=1000000000000):(u64.wrap v).fdiv ((2:Int) ^ 63)=cO v:=by rw [show((2:Int) ^ 63)=9223372036854775808 from by decide,Ui _ (by omega),qB];unfold cO;split <;> omega
theorem C7(v:Int):u32.wrap (u64.wrap v)=v % 4294967296:=by rw [fa,qB];omega
theorem C9(v b:Int):u64.wrap (u64.wrap v - b)=u64.wrap (v - b):=by simp only [qB];omega
open Go Go.Aev Go.Aev.Gen
def Dv(z:Int)(n:Nat)(r:Option (List T)):Prop:= ∃s e d,r=some [T.aC,tb s,T.ae 1 e (aN d)]/\lr z s d/\d.length<=n
theorem tt:(true==true)=true:=rfl
open Go Go.Aev Go.Aev.Gen
def ic(a:Int):List Int->List Int->Int->List Int
 | [],[],_=> []
 | [],_::r,c=>c::r
 | _::_,[],_=> []
 | b::y,o::r,c=>((c+a * b+o) % 4294967296)::ic a y r ((c+a * b+o) / 4294967296)
theorem pX{a b:Int}(c: 0<=a/\a < 4294967296)(hb: 0<=b/\b < 4294967296): 0<=a * b/\a * b<=18446744065119617025:=by have h1: 0<=a * b:=T9 c.1 hb.1;have d:a * b<=4294967295 * 4294967295:=Int.mul_le_mul (by omega) (by omega) hb.1 (by omega);omega
theorem Hw{a:Int}(e: 0<=a/\a < 4294967296):∀{y o r:List Int} {c:Int},y.length=o.length->val (ic a y (o++0::r) c)=c+a * val y+val (o++0::r)
 | [],[],r,c,_=>by simp [ic,val]
 | [],o::os,r,c,h=>by simp at h
 | b::y,[],r,c,h=>by simp at h
 | b::y,o::os,r,c,h=>by
  have:=Hw e (y:=y) (o:=os) (r:=r) (c:=(c+a * b+o) / 4294967296) (by simpa using h);simp only [S7,ic,val] at this⊢;have d:a * (b+4294967296 * val y)=a * b+4294967296 * (a * val y):=by rw [TG,TW]
  rw [this,d];omega
theorem Hu{a:Int}:∀{y o:List Int} {c:Int},(ic a y o c).length=o.length
 | [],[],_=>rfl
 | [],_::r,c=>rfl
 | _::_,[],_=>rfl
 | b::y,o::r,c=>by simp [ic,Hu]
theorem Ht{a:Int}(e: 0<=a/\a < 4294967296):∀{y o:List Int} {c:Int},Dg y->Dg o->0<=c/\c < 4294967296->Dg (ic a y o c)
 | [],[],_,_,_,_=>by intro u hu;simp [ic] at hu
 | [],_::r,c,_,d,f=>by
  intro u hu;simp only [ic] at hu;rcases Tg.1 hu with rfl | hu
  .exact f
  .exact d u (SY _ hu)
 | _::_,[],_,_,_,_=>by intro u hu;simp [ic] at hu
 | b::y,o::r,c,hy,d,f=>by
  have h1:=d o SW;have g:=pX e (hy b SW);have:=Ht e (y:=y) (o:=r) (c:=(c+a * b+o) / 4294967296) hy.tail d.tail (by omega);intro u hu;simp only [ic] at hu;rcases Tg.1 hu with rfl | hu
  .omega
  .exact this u hu
theorem xe(a:List Int)(b:Int)(r:List Int)(i:Nat)(h:a.length=i):be (a++b::r) i=b:=by subst h;simp [be,SV]
theorem Hv{a:Int}:∀{y o r:List Int} {q c:Int},y.length=o.length->ic a y (o++q::r) c=ic a y (o++ [q]) c++r
 | [],[],r,q,c,_=>rfl
 | [],o::os,r,q,c,h=>by simp at h
 | b::y,[],r,q,c,h=>by simp at h
 | b::y,o::os,r,q,c,h=>by simp only [S7,ic];rw [Hv (by simpa using h)]
theorem J9:∀n:Nat,val (List.replicate n 0)=0
 | 0=>rfl
 | n+1=>by simp only [TX,val,J9 n];omega
open Go Go.Aev Go.Aev.Gen
theorem Qd{z:Int}{s:Bool}{d:List Int}(h:lr z s d):val d= (z.natAbs:Int):=by have h1:=h.z;have a:=gU h.dg;unfold num at h1;split at h1 <;> omega
theorem B9{n m:Nat}(h:n<=m):(4294967296:Int) ^ n<=4294967296 ^ m:=by
 have:m=n+ (m - n):=by omega
 rw [this,Wr];have a:(4294967296:Int) ^ n * 1<=4294967296 ^ n * 4294967296 ^ (m - n):=Ti (by have:=ja (m - n);omega) (Uz (ja _));omega
theorem Qe{z:Int}{s:Bool}{d:List Int}(h:lr z s d)(n:Nat)(hz:(z.natAbs:Int) < 4294967296 ^ n):d.length<=n:=by
 rcases Wb n d.length with a | a
 .exfalso;have h1:=Ai (k:=d.length - 1) h.dg h.can (by omega);rw [Qd h] at h1;have b:(4294967296:Int) ^ n<=4294967296 ^ (d.length - 1):=B9 (by omega);omega
 .exact a
theorem QY(a b:Nat)(hb:b < 2 ^ 32):a * 2 ^ 32 ||| b=a * 2 ^ 32+b:=by rw [Nat.mul_comm,W8 hb]
theorem ux{v n:Int}(hv: 0<=v/\v < 4294967296)(f: 0<=n/\n < 4294967296):
  u64.wrap (((BitVec.ofInt 64 (u64.wrap (v * (2:Int) ^ 32)) ||| BitVec.ofInt 64 (u64.wrap n)).toNat:Nat):Int)=v * 4294967296+n:=by
 obtain⟨a,rfl⟩:=U4 hv.1;obtain⟨b,rfl⟩:=U4 f.1;have h1:u64.wrap ((a:Int) * (2:Int) ^ 32)= ((a * 2 ^ 32:Nat):Int):=by rw [show((2:Int) ^ 32)=4294967296 from by decide,bY (by omega)];omega
 have e:u64.wrap (b:Int)= ((b:Nat):Int):=bY (by omega);have c:(a * 2 ^ 32) % 2 ^ 64=a * 2 ^ 32:=Vd (by omega);have d:b % 2 ^ 64=b:=Vd (by omega);rw [h1,e,VO,VO,BitVec.toNat_or,VY,VY,c,d,QY a b (by omega),bY (by omega)];omega
open Go Go.Aev Go.Aev.Gen
section
variable {U V P w0 v0 u2 v2 v1 Tt q qh rh:Int}
theorem NT(l: 0 < P)(m:U=w0+P * u2+4294967296 * (P * Tt))(d:V=v0+P * v2+4294967296 * (P * v1))(n: 0<=w0/\w0 < P)(b: 0<=v0)(g:u2 < 4294967296)(c: 0<=v2)(a: 0<=q)(f:q * V<=U):q * v1<=Tt:=by
 rcases UG Tt (q * v1) with h | h
 .exfalso;have h1:P * (Tt+1)<=P * (q * v1):=Ti (by omega) (by omega);have i:P * u2<=P * 4294967295:=Ti (by omega) (by omega);have j: 0<=q * v0:=T9 a b;have k: 0<=P * (q * v2):=T9 (by omega) (T9 a c);have e:q * V=q * v0+P * (q * v2)+4294967296 * (P * (q * v1)):=by
   rw [d,TG,TG,TW q P,TW q 4294967296,TW q P]
  rw [TG] at h1;omega
 .exact h
theorem NU(k: 0 < P)(l:U=w0+P * u2+4294967296 * (P * Tt))(d:V=v0+P * v2+4294967296 * (P * v1))(o: 0<=w0/\w0 < P)(b: 0<=v0)(a: 0<=qh)(c:qh * v1+rh=Tt)(n:q * V<=U)(m:qh * v2 > rh * 4294967296+u2)(f: 0 < V):q<=qh - 1:=by
 have h1:U < qh * V:=by
  have e:qh * V=qh * v0+P * (qh * v2)+4294967296 * (P * (qh * v1)):=by rw [d,TG,TG,TW qh P,TW qh 4294967296,TW qh P]
  have i:P * (rh * 4294967296+u2+1)<=P * (qh * v2):=Ti (by omega) (by omega);have j: 0<=qh * v0:=T9 a b;have g:P * Tt=P * (qh * v1)+P * rh:=by rw [<-c,TG]
  have e3:P * (rh * 4294967296+u2+1)=4294967296 * (P * rh)+P * u2+P:=by rw [TG,TG,Wq,<-Ub P rh,TA (P * rh)]
  omega
 rcases UG (qh - 1) q with h | h
 .exfalso;have:qh * V<=q * V:=TF (by omega) (by omega);omega
 .exact h
theorem GI(o: 0 < P)(p:U=w0+P * u2+4294967296 * (P * Tt))(g:V=v0+P * v2+4294967296 * (P * v1))(r: 0<=w0)(b: 0<=v0/\v0 < P)(d: 0<=v2)(c: 1<=v1)(a: 0<=qh/\qh<=4294967296)(f:qh * v1+rh=Tt)(h:qh * v2<=rh * 4294967296+u2):(qh - 1) * V<=U:=by
 have e:qh * V=qh * v0+P * (qh * v2)+4294967296 * (P * (qh * v1)):=by rw [g,TG,TG,TW qh P,TW qh 4294967296,TW qh P]
 have k:P * (qh * v2)<=P * (rh * 4294967296+u2):=Ti h (by omega);have e3:P * (rh * 4294967296+u2)=4294967296 * (P * rh)+P * u2:=by rw [TG,<-Ub P rh,TA (P * rh)]
 have i:P * Tt=P * (qh * v1)+P * rh:=by rw [<-f,TG]
 have l:qh * v0<=4294967296 * v0:=TF a.2 b.1;have m:P * 1<=P * v1:=Ti c (by omega);have n: 0<=P * v2:=T9 (by omega) d;have j:(qh - 1) * V=qh * V - V:=by rw [W2,Ur]
 omega
end
theorem Dg.append{a b:List Int}(c:Dg a)(hb:Dg b):Dg (a++b):=λu hu=>by
 rcases Tm.1 hu with hu | hu
 .exact c u hu
 .exact hb u hu
theorem Dg.left{a b:List Int}(h:Dg (a++b)):Dg a:=λu c=>h u (Tf _ c)
theorem Dg.right{a b:List Int}(h:Dg (a++b)):Dg b:=λu c=>h u (Te _ c)
def jW(q:Int):List Int->List Int->Int->Int->List Int
 | x::us,a::vs,c,b=>((x - (c+q * a) % 4294967296 - b) % 4294967296)::jW q us vs ((c+q * a) / 4294967296) (cO (x - (c+q * a) % 4294967296 - b))
 | us,_,_,_=>us
def fI(q:Int):List Int->List Int->Int->Int->Int×Int
 | x::us,a::vs,c,b=>fI q us vs ((c+q * a) / 4294967296) (cO (x - (c+q * a) % 4294967296 - b))
 | _,_,c,b=>(c,b)
theorem DZ(v:Int): 0<=cO v/\cO v<=1:=by unfold cO;split <;> omega
theorem Hr{q:Int}(g: 0<=q/\q < 4294967296):∀{us vs:List Int} {c b:Int},us.length=vs.length->Dg us->Dg vs->0<=c/\c < 4294967296->0<=b/\b<=1->
  val (jW q us vs c b)=val us - q * val vs - c - b+4294967296 ^ us.length * ((fI q us vs c b).1+ (fI q us vs c b).2)/\(jW q us vs c b).length=us.length/\Dg (jW q us vs c b)/\0<=(fI q us vs c b).1/\(fI q us vs c b).1 < 4294967296/\0<=(fI q us vs c b).2/\(fI q us vs c b).2<=1
 | [],[],c,b,_,_,_,e,hb=>by refine⟨by simp [jW,fI,val];omega,rfl,(by intro a f;cases f),e.1,e.2,hb.1,hb.2⟩
 | [],a::vs,c,b,h,_,_,_,_=>by simp at h
 | x::us,[],c,b,h,_,_,_,_=>by simp at h
 | x::us,a::vs,c,b,h,i,hv,e,hb=>by
  have o:=i x SW;have f:=pX g (hv a SW);obtain⟨k,l,m,n⟩:=Hr g (us:=us) (vs:=vs) (c:=(c+q * a) / 4294967296) (b:=cO (x - (c+q * a) % 4294967296 - b)) (by simpa using h) i.tail hv.tail (by omega) (DZ _);refine⟨?_,by simp [jW,l], ?_,by rw [fI];exact n⟩
  .simp only [jW,fI,val,Tr,VE];rw [k];have j:q * (a+4294967296 * val vs)=q * a+4294967296 * (q * val vs):=by rw [TG,TW]
   rw [j,TA ((4294967296:Int) ^ us.length) 4294967296,Ub];generalize (4294967296:Int) ^ us.length * _=K;unfold cO;split <;> omega
  .intro u d;simp only [jW] at d;rcases Tg.1 d with rfl | d
   .omega
   .exact m u d
def fT:List Int->List Int->Int->List Int
 | x::us,a::vs,c=>((c+ (x+a)) % 4294967296)::fT us vs ((c+ (x+a)) / 4294967296)
 | us,_,_=>us
def jI:List Int->List Int->Int->Int
 | x::us,a::vs,c=>jI us vs ((c+ (x+a)) / 4294967296)
 | _,_,c=>c
theorem Dx:∀{us vs:List Int} {c:Int},us.length=vs.length->Dg us->Dg vs->0<=c/\c<=1->
  val (fT us vs c)+4294967296 ^ us.length * jI us vs c=val us+val vs+c/\(fT us vs c).length=us.length/\Dg (fT us vs c)/\0<=jI us vs c/\jI us vs c<=1
 | [],[],c,_,_,_,d=>by exact⟨by simp [fT,jI,val],rfl,(by intro a e;cases e),d.1,d.2⟩
 | [],a::vs,c,h,_,_,_=>by simp at h
 | x::us,[],c,h,_,_,_=>by simp at h
 | x::us,a::vs,c,h,f,hv,d=>by
  have l:=f x SW;have e:=hv a SW;obtain⟨g,i,j,k⟩:=Dx (us:=us) (vs:=vs) (c:=(c+ (x+a)) / 4294967296) (by simpa using h) f.tail hv.tail (by omega);refine⟨?_,by simp [fT,i], ?_,by rw [jI];exact k⟩
  .simp only [fT,jI,val,Tr,VE];rw [TA ((4294967296:Int) ^ us.length) 4294967296,Ub];generalize (4294967296:Int) ^ us.length * _=K at g⊢;omega
  .intro u b;simp only [fT] at b;rcases Tg.1 b with rfl | b
   .omega
   .exact j u b
theorem BM{a k m:Int}(hm: 0 < m):(a * m) % (k * m)= (a % k) * m:=by rw [TA a m,TA k m,Int.mul_emod_mul_of_pos _ _ hm,TA]
def fM(m:Int):List Int->Int->List Int
 | [],c=> [c]
 | a::x,c=>((a * m) % 4294967296+c)::fM m x (a * m / 4294967296)
theorem yP{m k:Int}(hm: 0 < m)(d: 4294967296=k * m):∀{x:List Int} {c:Int},Dg x->0<=c/\c < m->val (fM m x c)=val x * m+c/\(fM m x c).length=x.length+1/\Dg (fM m x c)
 | [],c,_,o=>by
  have e: 0 < k:=by
   rcases UG 0 k with h | h
   .exact h
   .have:=T9 (Xp h) (Uz hm);rw [Xv] at this;omega
  have f:m * 1<=m * k:=Ti (by omega) (by omega);rw [TA m k,<-d] at f;refine⟨by simp [fM,val],rfl,λa b=> ?_⟩;simp only [fM,Tc] at b;subst b;omega
 | a::x,c,h,o=>by
  have b:=h a SW;have g: 0<=a * m:=T9 b.1 (by omega);have h1:a * m < 4294967296 * m:=Wh b.2 hm;have i:a * m / 4294967296 < m:=by rw [Vw (by decide),TA m];exact h1
  have j: 0<=a * m / 4294967296:=Vk g (by decide);obtain⟨r,t,w⟩:=yP hm d (x:=x) (c:=a * m / 4294967296) h.tail ⟨j,i⟩;refine⟨?_,by simp [fM,t], ?_⟩
  .simp only [fM,val];rw [r,VP,Ub 4294967296 (val x) m];omega
  .intro u hu;simp only [fM] at hu;rcases Tg.1 hu with rfl | hu
   ·
    have p:(a * m) % 4294967296= (a % k) * m:=by
     conv=>lhs;rw [d]
     rw [BM hm]
    have e: 0 < k:=by
     rcases UG 0 k with h | h
     .exact h
     .have:=T9 (Xp h) (Uz hm);rw [Xv] at this;omega
    have y:=UZ a e;have l:=VJ a (show k≠0 by omega);have n:(a % k+1) * m<=k * m:=TF (by omega) (by omega);have z: 0<=(a % k) * m:=T9 l (by omega);rw [VP,Ur,<-d] at n;rw [p];omega
   .exact w u hu
def eN(m k:Int):List Int->List Int
 | []=> []
 | [a]=> [a / m]
 | a::b::r=>(a / m+ (b * k) % 4294967296)::eN m k (b::r)
theorem I9{m k:Int}(hm: 0 < m)(c: 4294967296=k * m)(f: 0 < k):∀{x:List Int},Dg x->val (eN m k x)=val x / m/\(eN m k x).length=x.length/\Dg (eN m k x)
 | [],_=>by simp [eN,val,Dg]
 | [a],h=>by have d:=h a SW;have h1: 0<=a / m:=Vk d.1 (by omega);have z:a / m<=a:=Int.ediv_le_self _ d.1;refine⟨by simp [eN,val],rfl,λu hu=> ?_⟩;simp only [eN,Tc] at hu;subst hu;omega
 | a::b::r,h=>by
  obtain⟨p,t,w⟩:=I9 hm c f (x:=b::r) h.tail;have d:=h a SW;have hb:=h b (by simp);have e:(b * k) % 4294967296= (b % m) * k:=by
   conv=>lhs;rw [c,TA k m]
   rw [BM f]
  refine⟨?_,by rw [eN,Tr,t];rfl, ?_⟩
  .have g:val (a::b::r) / m=a / m+k * val (b::r):=by
    rw [show val (a::b::r)=a+4294967296 * val (b::r) from rfl]
    conv=>lhs;rw [c,TA k m,Ub]
    rw [Int.add_mul_ediv_left _ _ (by omega)]
   have i:val (b::r) / m=b / m+k * val r:=by
    rw [show val (b::r)=b+4294967296 * val r from rfl]
    conv=>lhs;rw [c,TA k m,Ub]
    rw [Int.add_mul_ediv_left _ _ (by omega)]
   have e3:=Vf b m;rw [g];simp only [eN,val];rw [p,i,e];have j: 4294967296 * (b / m+k * val r)=k * (m * (b / m))+4294967296 * (k * val r):=by
    rw [TG]
    conv=>lhs;rw [c,Ub]
    rw [<-c]
   have l:k * (b+4294967296 * val r)=k * (m * (b / m))+ (b % m) * k+4294967296 * (k * val r):=by
    rw [TG,TW k 4294967296]
    conv=>lhs;rw [<-e3,TG,TA k (b % m)]
   rw [j,l];omega
  .intro u hu;simp only [eN] at hu;rcases Tg.1 hu with rfl | hu
   .rw [e];have A:=UZ b hm;have n:=VJ b (show m≠0 by omega);have o:(b % m+1) * k<=m * k:=TF (by omega) (by omega);have B: 0<=(b % m) * k:=T9 n (by omega);rw [VP,Ur,TA m k,<-c] at o;have C: 0<=a / m:=Vk d.1 (by omega);have y:a / m < k:=by
     rw [Vw hm,<-c];exact d.2
    omega
   .exact w u hu
open Go Go.Aev Go.Aev.Gen
abbrev u6(n:Int):AV:=AV.t (T.int .u64 n)
abbrev U2(ec0 ec1:Bool)(u a:List Int):List aa:= [aa.sl false 1 ec0 (aN u),aa.sl false 1 ec1 (aN a)]
def Good(a:List T->Prop)(r:Option (List T)):Prop:= ∃R,r=some R/\a R
theorem Good.step{b:List T->Prop}{r a:Option (List T)}(h:Good b a)(k:∀R,a=some R->r=some R):Good b r:=by obtain⟨R,h1,c⟩:=h;exact⟨R,k R h1,c⟩
theorem Lh{d:List Int}{i:Nat}{a:Int}(h:d[i]? =some a):be d i=a:=by simp [be,SV,h]
theorem nx(i:Nat)(h:i<=100000):i64.wrap ((i:Int)+1)= ((i+1:Nat):Int):=next i h
theorem ad(i j:Nat)(h:i+j<=100000):i64.wrap ((i:Int)+ (j:Int))= ((i+j:Nat):Int):=by rw [Go.Aev.wr (by omega)];omega
theorem mA(a:List Int)(b:Int)(r:List Int)(i:Nat)(h:a.length=i):(aN (a++b::r))[((i:Nat):Int).toNat]? =some [T.int .u32 b]:=by rw [dq (by simp;omega),xe a b r i h]
theorem mL(a:List Int)(b v:Int)(r:List Int)(i:Nat)(h:a.length=i):bT (i:Int).toNat 0 [T.int .u32 v] (aN (a++b::r))=some (aN (a++v::r)):=by rw [AK (by simp;omega),yO a b v r i h]
section
variable (s:Nat) (ev ec0 ec1:Bool) (v:List Int) (lo hi:List Int)
theorem C6(k:Nat)(h:k<=100000):i64.wrap ((k:Int) - 1)= (k:Int) - 1:=Go.Aev.wr (by omega)
end
theorem r6(n:Nat):((2:Int) ^ n)= ((2 ^ n:Nat):Int):=by rw [Int.natCast_pow];rfl
theorem uw{y z:Int}{n t:Nat}(f:n<=32)(hy: 0<=y/\y < (2:Int) ^ n)(hz:z= ((2 ^ n * t:Nat):Int))(hb:z < 4294967296)(b:z+y < 4294967296):
  u32.wrap (((BitVec.ofInt 32 y ||| BitVec.ofInt 32 z).toNat:Nat):Int)=z+y:=by
 obtain⟨a,rfl⟩:=U4 hy.1;have e:a < 2 ^ n:=by have:=hy.2;rw [r6] at this;omega
 have h: 2 ^ n * t < 4294967296:=by rw [hz] at hb;omega
 have g:(2:Nat) ^ n<=2 ^ 32:=Vm (by decide) f;have c:a % 2 ^ 32=a:=Vd (by omega);have d:(2 ^ n * t) % 2 ^ 32=2 ^ n * t:=Vd (by omega);rw [hz,VO,VO,BitVec.toNat_or,VY,VY,c,d,Nat.or_comm,<-W8 e,fa];have: 2 ^ n * t+a < 4294967296:=by rw [hz] at b;omega
 rw [<-Int.natCast_add];omega
theorem lV(n:Nat): 0 < (2:Int) ^ n:=Int.pow_pos (by decide)
theorem uD{n:Nat}(h:n<=32):(4294967296:Int)=2 ^ (32 - n) * 2 ^ n:=by rw [<-Wr,show 32 - n+n=32 from by omega];decide
theorem Hl{a m k:Int}(hm: 0 < m)(b: 4294967296=k * m):(a * m) % 4294967296= (a % k) * m:=by
 conv=>lhs;rw [b]
 rw [BM hm]
open Go Go.Aev Go.Aev.Gen
def Ds(X Y:Int)(L:Nat)(R:List T):Prop:= ∃a Q b Z,R= [T.ae 1 a (aN Q),T.ae 1 b (aN Z)]/\Dg Q/\Dg Z/\val Q=X / Y/\val Z=X % Y/\Q.length<=L/\Z.length<=L
theorem m5{b:Type}{l:List b}{n:Nat}(h:l.length=n+1):∃a x,l=a++ [x]/\a.length=n:=by
 rcases List.eq_nil_or_concat l with rfl | ⟨a,x,rfl⟩
 .simp at h
 .exact⟨a,x,by simp,by simpa using h⟩
def Dd(s L:Nat)(V N0:Int)(n:Nat)(R:List T):Prop:= ∃b Q c Z a,R= [T.ae 1 b (aN Q),T.ae 1 c (aN Z)]/\Dg Q/\Dg Z/\Q.length=L/\Z.length=n/\0<=a/\a < V/\val Q * V+a=N0/\val Z=a / 2 ^ s
structure Dr (s:Nat) (x y UU VV:List Int) (V2:List Int) (w2 w1:Int):Prop where
 hs:s < 32
 vv:VV=V2++ [w2] ++ [w1] ++ [0]
 dV:Dg (V2++ [w2,w1])
 h1: 1<=w1
 SE:val (V2++ [w2,w1])=val y * 2 ^ s
 ly:y.length=V2.length+2
 ge: 4294967296 ^ (V2.length+1)<=val y
 dU:Dg UU
 J7:val UU=val x * 2 ^ s
 lu:UU.length=x.length+1
theorem N9{x y':List Int}{b a:Int}(T:Dg x)(hy:Dg (y'++ [b,a]))(h1: 1<=a)(s:Nat)(hs:s < 32)(w:a * 2 ^ s < 4294967296):
  ∃g w2 Z,g.length=y'.length/\Dr s x (y'++ [b,a]) (fM (2 ^ s) x 0) (fM (2 ^ s) (y'++ [b,a]) 0) g w2 Z:=by
 have p:(y'++ [b,a]).length=y'.length+2:=by simp
 have m:=lV s;have z:=uD (n:=s) (by omega);obtain⟨v1,N,t⟩:=yP m z (x:=y'++ [b,a]) (c:=0) hy ⟨WD _,m⟩;obtain⟨M,u2,Y⟩:=yP m z (x:=x) (c:=0) T ⟨WD _,m⟩;generalize fM (2 ^ s) (y'++ [b,a]) 0=O at *
 generalize fM (2 ^ s) x 0=UU at *
 rw [Vn] at v1 M;have y:=il y' [b,a];have W:=kx hy.left;have hy2:=hy b (by simp);have hy1:=hy a (by simp);have hPp:=ja y'.length;obtain⟨C,r,rfl,o⟩:=m5 (l:=O) (n:=y'.length+2) (by rw [N,p]);have dvt:=t r (by simp);have u:=il C [r];rw [o] at u;simp only [val,VT,Vn] at u y;have R:=gU t.left;have E:val (y'++ [b,a]) * 2 ^ s < 4294967296 ^ (y'.length+2):=by
  have G:val (y'++ [b,a])<=4294967296 ^ (y'.length+1) * (a+1) - 1:=by
   have J:=kx (d:=y'++ [b]) (by
    have:y'++ [b,a]= (y'++ [b])++ [a]:=by simp
    rw [this] at hy;exact hy.left)
   have e:=il (y'++ [b]) [a];rw [show(y'++ [b])++ [a]=y'++ [b,a] from by simp] at e;simp only [val,VT,Vn,Uh,Tr,T6,TC] at e J;rw [TG,Wq];omega
  have A:(a+1) * (2:Int) ^ s<=4294967296:=by rw [z] at w⊢;have:a < 2 ^ (32 - s):=Xc w (by omega);exact TF (by omega) (by omega)
  have hpp:=ja (y'.length+1);have X:val (y'++ [b,a]) * (2:Int) ^ s<=(4294967296 ^ (y'.length+1) * (a+1) - 1) * 2 ^ s:=TF G (by omega);have m2:(4294967296:Int) ^ (y'.length+1) * ((a+1) * 2 ^ s)<=4294967296 ^ (y'.length+1) * 4294967296:=Ti A (by omega);rw [W2,Ur,Ub] at X;rw [show y'.length+2=y'.length+1+1 from rfl,VE 4294967296 (y'.length+1)];omega
 have K:r=0:=by
  rcases UG 0 r with h | h
  .exfalso;have:(4294967296:Int) ^ (y'.length+2) * 1<=4294967296 ^ (y'.length+2) * r:=Ti (by omega) (Uz (ja _));omega
  .omega
 subst K;have j:val C=val (y'++ [b,a]) * 2 ^ s:=by omega
 obtain⟨V1,i,rfl,D⟩:=m5 o;obtain⟨g,f,rfl,k⟩:=m5 D;have I:g++ [f] ++ [i]=g++ [f,i]:=by simp
 rw [I] at j t o;have dV:=t.left;have B: 4294967296 ^ (y'.length+1)<=val (y'++ [b,a]):=by rw [y,VE];have:(4294967296:Int) ^ y'.length * (4294967296 * 1)<=4294967296 ^ y'.length * (b+4294967296 * a):=Ti (by omega) (by omega);have:=gU hy.left;omega
 have H: 1<=(2:Int) ^ s:=by omega
 have S: 4294967296 ^ (y'.length+1)<=val (g++ [f,i]):=by rw [j];have:val (y'++ [b,a]) * 1<=val (y'++ [b,a]) * 2 ^ s:=Ti H (by have:=ja (y'.length+1);omega);omega
 have L: 1<=i:=by
  have dw1:=dV i (by simp);rcases UG i 1 with h | h
  .exfalso;have Q:i=0:=by omega
   subst Q;have e:=il (g++ [f]) [(0:Int)];have F:=kx (d:=g++ [f]) (by
    have:g++ [f,(0:Int)]= (g++ [f])++ [0]:=by simp
    rw [this] at dV;exact dV.left)
   rw [show g++ [f] ++ [(0:Int)]=g++ [f,0] from by simp] at e;simp only [val,VT,Vn,Uh,Tr,T6,k,TC] at e F;omega
  .exact h
 exact⟨g,f,i,k,hs,rfl,dV,L,j,by rw [p,k],by rw [k];exact B,Y,M,u2⟩
open Go Go.Aev Go.Aev.Gen
open Go Go.Aev Go.Aev.Gen
def kA(z:Int):Prop:=(z.natAbs:Int) < 4294967296 ^ 200
theorem kA.len{z:Int}{s:Bool}{d:List Int}(h:kA z)(r:lr z s d):d.length<=200:=Qe r 200 h
theorem kA.le{z w:Int}(h:kA z)(a:w.natAbs<=z.natAbs):kA w:=by
 unfold kA at *
 have:(w.natAbs:Int)<=(z.natAbs:Int):=by omega
 exact Int.lt_of_le_of_lt this h
def Sm(z:Int):Prop:= -9223372036854775808 < z/\z < 9223372036854775808
theorem Sm.gf{z:Int}(h:Sm z):kA z:=by
 unfold Sm at h;unfold kA;have h1:(4294967296:Int) ^ 2<=4294967296 ^ 200:=B9 (by omega);have a:(4294967296:Int) ^ 2=18446744073709551616:=by decide
 rw [a] at h1;exact Int.lt_of_lt_of_le (by omega) h1
def Kg(z:Int)(r:Option (List T)):Prop:= ∃s e d,r=some [T.aC,tb s,T.ae 1 e (aN d)]/\lr z s d
theorem Dv.g{z:Int}{n:Nat}{r:Option (List T)}(h:Dv z n r):Kg z r:=by obtain⟨s,e,d,a,k2,_⟩:=h;exact⟨s,e,d,a,k2⟩
abbrev r1:AV:=AV.ref (Id.c 1) 0
abbrev pt(s e:Bool)(d:List Int):T:=T.ptr [T.bool s,T.ae 1 e (aN d)]
theorem wi{z:Int}{s e:Bool}{d:List Int}(h:lr z s d):WI z (pt s e d):=⟨s,e,d,rfl,h⟩
def WR(q:Rat)(x:T):Prop:= ∃s e d s' b a,x=T.ptr [tb s,T.ae 1 e (aN d),tb s',T.ae 1 b (aN a)]/\lr q.num s d/\lr (q.den:Int) s' a
def LQ(q:Rat):Prop:=kA q.num/\kA (q.den:Int)
abbrev b4(s:Bool)(y:T)(t:Bool)(u:T):aa:=aa.box [AV.t (T.bool s),AV.t y,AV.t (T.bool t),AV.t u]
theorem EG{u v:Int}(hv:v≠0):(v < 0->(Rat.divInt u v).num= -(u.tdiv (Int.gcd u v:Nat))/\((Rat.divInt u v).den:Int)= -(v.tdiv (Int.gcd u v:Nat)))/\
  (¬v < 0->(Rat.divInt u v).num=u.tdiv (Int.gcd u v:Nat)/\((Rat.divInt u v).den:Int)=v.tdiv (Int.gcd u v:Nat)):=by
 have a:=Rat.num_divInt u v;have b:=Rat.den_divInt u v;rw [if_neg hv] at b;rw [Int.gcd_comm v u] at a b;have c:((Int.gcd u v:Nat):Int) ∣ u:=Int.gcd_dvd_left u v;have d:((Int.gcd u v:Nat):Int) ∣ v:=Int.gcd_dvd_right u v;have e:u.tdiv (Int.gcd u v:Nat)=u / (Int.gcd u v:Nat):=U5 c;have f:v.tdiv (Int.gcd u v:Nat)=v / (Int.gcd u v:Nat):=U5 d;rw [e,f];constructor
 .intro h;have hs:v.sign= -1:=Up h;rw [hs] at a;constructor
  .rw [a,show -1 * u= -u from by omega,Wv c]
  .rw [b,Int.natCast_ediv,Int.ofNat_natAbs_of_nonpos (by omega),Wv d]
 .intro h;have hs:v.sign=1:=Us (by omega);rw [hs,Ur] at a;constructor
  .exact a
  .rw [b,Int.natCast_ediv,Int.natAbs_of_nonneg (by omega)]
open Go Go.Aev Go.Aev.Gen
theorem wr{q:Rat}{s e s' b:Bool}{d a:List Int}(h1:lr q.num s d)(c:lr (q.den:Int) s' a):WR q (T.ptr [tb s,T.ae 1 e (aN d),tb s',T.ae 1 b (aN a)]):=⟨s,e,d,s',b,a,rfl,h1,c⟩
theorem yF(q:Rat):(-q).num= -q.num:=rfl
theorem Ix(q:Rat):(-q).den=q.den:=rfl
theorem Hx(p q:Rat):Rat.divInt (p.num * q.num) ((p.den:Int) * (q.den:Int))=p * q:=by
 conv=>rhs;rw [<-U0 p,<-U0 q]
 rw [Rat.divInt_mul_divInt]
theorem DA(p q:Rat):Rat.divInt (p.num * (q.den:Int)+q.num * (p.den:Int)) ((p.den:Int) * (q.den:Int))=p+q:=by
 conv=>rhs;rw [<-U0 p,<-U0 q]
 rw [Rat.divInt_add_divInt _ _ (by have:=p.den_pos;omega) (by have:=q.den_pos;omega)]
theorem xm(p q:Rat):(p.den:Int) * (q.den:Int)≠0:=by have h1:=p.den_pos;have a:=q.den_pos;exact Int.mul_ne_zero (by omega) (by omega)
theorem LQ.neg{q:Rat}(h:LQ q):LQ (-q):=⟨h.1.le (by rw [yF];omega),h.2⟩
open Go Go.Aev Go.Aev.Gen
theorem xp{u v:Int}(hv:v≠0):(Rat.divInt u v).num.natAbs<=u.natAbs/\(Rat.divInt u v).den<=v.natAbs:=by
 obtain⟨h1,c⟩:=EG (u:=u) hv;have d:(u.tdiv (Int.gcd u v:Nat)).natAbs<=u.natAbs:=by rw [Int.natAbs_tdiv];exact Nat.div_le_self _ _
 have e:(v.tdiv (Int.gcd u v:Nat)).natAbs<=v.natAbs:=by rw [Int.natAbs_tdiv];exact Nat.div_le_self _ _
 by_cases h:v < 0
 .obtain⟨a,b⟩:=h1 h;constructor <;> omega
 .obtain⟨a,b⟩:=c h;constructor <;> omega
def QB(m:Nat)(q:Rat):Prop:=q.num.natAbs<=2 ^ m/\q.den<=2 ^ m
theorem PW(k:Nat):(4294967296:Int) ^ k= ((2 ^ (32 * k):Nat):Int):=by rw [Nat.pow_mul,Int.natCast_pow];rfl
theorem Og{m k:Nat}{z:Int}(hm:m < 32 * k)(h:z.natAbs<=2 ^ m):(z.natAbs:Int) < 4294967296 ^ k:=by rw [PW k];exact Int.ofNat_lt.2 (Nat.lt_of_le_of_lt h (Nat.pow_lt_pow_right (by omega) hm))
theorem BD{m:Nat}{z:Int}(hm:m<=6300)(h:z.natAbs<=2 ^ m):kA z:=Og (by omega) h
theorem QB.lq{m:Nat}{q:Rat}(h:QB m q)(hm:m<=6300):LQ q:=⟨BD hm h.1,BD hm (by simpa using h.2)⟩
theorem QB.mono{m k:Nat}{q:Rat}(h:QB m q)(hm:m<=k):QB k q:=
 ⟨Tz h.1 (Vm (by omega) hm),Tz h.2 (Vm (by omega) hm)⟩
theorem jB{a b m k:Nat}(c:a<=2 ^ m)(hb:b<=2 ^ k):a * b<=2 ^ (m+k):=by rw [Nat.pow_add];exact Wz c hb
theorem QB.mul{m k:Nat}{p q:Rat}(a:QB m p)(b:QB k q):QB (m+k) (p * q):=by
 rw [<-Hx];obtain⟨h1,c⟩:=xp (u:=p.num * q.num) (xm p q);refine⟨Tz h1 ?_,Tz c ?_⟩
 .rw [T8];exact jB a.1 b.1
 .rw [T8,TH,TH];exact jB a.2 b.2
theorem zS{m k:Nat}{p q:Rat}(a:QB m p)(b:QB k q):(p.num * (q.den:Int)+q.num * (p.den:Int)).natAbs<=2 ^ (m+k+1):=by
 have h1:(p.num * (q.den:Int)).natAbs<=2 ^ (m+k):=by rw [T8,TH];exact jB a.1 b.2
 have c:(q.num * (p.den:Int)).natAbs<=2 ^ (m+k):=by rw [T8,TH,WO m k];exact jB b.1 a.2
 have d:=Int.natAbs_add_le (p.num * (q.den:Int)) (q.num * (p.den:Int));rw [Nat.pow_succ];omega
theorem QB.add{m k:Nat}{p q:Rat}(a:QB m p)(b:QB k q):QB (m+k+1) (p+q):=by rw [<-DA];obtain⟨h1,c⟩:=xp (u:=p.num * (q.den:Int)+q.num * (p.den:Int)) (xm p q);refine⟨Tz h1 (zS a b),Tz c ?_⟩;rw [T8,TH,TH];exact Tz (jB a.2 b.2) (Vm (by omega) (by omega))
theorem QB.neg{m:Nat}{q:Rat}(h:QB m q):QB m (-q):=⟨by rw [yF,W0];exact h.1,h.2⟩
theorem QB.sub{m k:Nat}{p q:Rat}(a:QB m p)(b:QB k q):QB (m+k+1) (p - q):=by rw [Rat.sub_eq_add_neg];exact a.add b.neg
theorem QB.divInt{m:Nat}{u v:Int}(hv:v≠0)(h1:u.natAbs<=2 ^ m)(c:v.natAbs<=2 ^ m):QB m (Rat.divInt u v):=by obtain⟨a,b⟩:=xp (u:=u) hv;exact⟨Tz a h1,Tz b c⟩
theorem uS{m k:Nat}{p q:Rat}(a:QB m p)(b:QB k q):(p.num * (q.den:Int) - q.num * (p.den:Int)).natAbs<=2 ^ (m+k+1):=by have:=zS a b.neg;rw [yF,Ix,Xv,<-Int.sub_eq_add_neg] at this;exact this
abbrev Fr:=Int×Int
def gF(l:List Fr):List (List T):=l.map λx=> [ti x.1,ti x.2]
abbrev LN(e:Bool)(l:List Fr):AV:=AV.t (T.ae 2 e (gF l))
theorem fm(l:List Fr):(gF l).length=l.length:=by simp [gF]
theorem oA{l:List Fr}{i:Nat}{r:Fr}(h:l[i]? =some r):(gF l)[((i:Nat):Int).toNat]? =some [ti r.1,ti r.2]:=by simp [gF,h]
def bH(x:Fr):Prop:=1<=x.2/\x.2<=1073741824/\ -1073741824<=x.1/\x.1<=1073741824/\Int.gcd x.1 x.2=1
instance (x:Fr):Decidable (bH x):=by unfold bH;infer_instance
def ba(x:Fr):Rat:=Rat.divInt x.1 x.2
theorem NA{x:Fr}(h1: 1<=x.2/\x.2<=1073741824)(a: -1073741824<=x.1/\x.1<=1073741824):QB 30 (ba x):=QB.divInt (by omega) (by omega) (by omega)
def mh(x:Fr):Prop:=(1<=x.2/\x.2<=1073741824)/\ -1073741824<=x.1/\x.1<=1073741824
theorem bH.b{x:Fr}(h:bH x):mh x:=⟨⟨h.1,h.2.1⟩,h.2.2.1,h.2.2.2.1⟩
end Go.Aev.Wd
