import Derived.Test.YtgkhhafdkdmlpaaGreatTopMostQ6
set_option linter.all false
namespace Go.Aev.Wd
open Go Go.Aev Go.Aev.Gen Go.IntKind
open Go Go.Aev Go.Aev.Gen Go.IntKind
def val:List Int->Int
 | []=>0
 | a::r=>a+4294967296 * val r
def Dg(d:List Int):Prop:= ∀a∈d,0<=a/\a < 4294967296
def aM(d:List Int):List (List T):=d.map λa=> [T.int .u32 a]
theorem bo(d:List Int):(aM d).length=d.length:=by simp [aM]
def be(d:List Int)(i:Nat):Int:=d.getD i 0
theorem dm{d:List Int}{i:Nat}(h:i < d.length):(aM d)[((i:Nat):Int).toNat]? =some [T.int .u32 (be d i)]:=by simp [aM,be,Rr,h]
theorem gP:∀{d:List Int},Dg d->0<=val d
 | [],_=>U5 _
 | a::d,h=>by have h1:=h a Rs;have c:=gP (d:=d) λb hb=>h b (Ru _ hb);simp only [val];omega
theorem hJ:∀(a b:List Int),val (a++b)=val a+4294967296 ^ a.length * val b
 | [],b=>by simp [val]
 | x::a,b=>by simp only [Rx,val,hJ a b,RP,T6,R7];rw [SA,Si];omega
def kM(d:List Int):Nat->Nat
 | 0=>0
 | k+1=>if be d k=0 then kM d k else k+1
def eL(d:List Int):List Int:=d.take (kM d d.length)
theorem IQ(d:List Int):∀k,kM d k<=k
 | 0=>RI _
 | k+1=>by
  rw [kM];split
  .have:=IQ d k;omega
  .exact RI _
theorem IS{d:List Int}:∀k,k<=d.length->val (d.take (kM d k))=val (d.take k)
 | 0,_=>rfl
 | k+1,h=>by
  rw [kM];split
  .rename_i hz;rw [IS k (by omega),Ue,hJ];have:d[k]? =some 0:=by
    have a:k < d.length:=by omega
    simp only [be,Rr,Rv a,RQ] at hz;rw [Rv a,hz]
   rw [this];simp [val]
  .rfl
theorem r8(d:List Int):val (eL d)=val d:=by rw [eL,IS d.length (RI _),Uo]
theorem eY(v:Int):u32.wrap v=v % 4294967296:=by simp [IntKind.wrap,IntKind.signed,IntKind.bits]
theorem p9(v:Int):u64.wrap v=v % 18446744073709551616:=by simp [IntKind.wrap,IntKind.signed,IntKind.bits]
def Can(d:List Int):Prop:= ∀k,d.length=k+1->be d k≠0
theorem IP{d:List Int}:∀k,k<=d.length->∀j,kM d k=j+1->be d j≠0
 | 0,_,j,h=>by cases h
 | k+1,a,j,h=>by
  rw [kM] at h;split at h
  .exact IP k (by omega) j h
  .rename_i hz;simp only [Nat.add_right_cancel_iff] at h;subst h;exact hz
theorem Ki{d:List Int}{n k:Nat}(h:k < n):be (d.take n) k=be d k:=by simp only [be,Rr,T4,if_pos h]
theorem r7(d:List Int):Can (eL d):=by
 intro k a;have c:=IQ d d.length;have b:(eL d).length=kM d d.length:=by unfold eL;rw [So];omega
 rw [b] at a;have:=IP d.length (RI _) k a;unfold eL;rw [Ki (by omega)];exact this
theorem o6{d:List Int}(h:Dg d):Dg (eL d):=λa b=>h a (Tl b)
def num(s:Bool)(d:List Int):Int:=if s=true then -val d else val d
structure kO (z:Int) (s:Bool) (d:List Int):Prop where
 dg:Dg d
 can:Can d
 sg:s=true->d≠[]
 z:num s d=z
def WI(z:Int)(x:T):Prop:= ∃s e d,x=T.ptr [tb s,T.ae 1 e (aM d)]/\kO z s d
theorem zI{d:List Int}(h:Dg d)(f:Can d)(i:d≠[]): 0 < val d:=by
 have e:=gP h;rcases Int.lt_or_eq_of_le e with h1 | h1
 .exact h1
 .exfalso;have:∀d:List Int,Dg d->val d=0->∀k,be d k=0:=by
   intro d;induction d with
   | nil=>intro _ _ k;simp [be]
   | cons a d j=>
    intro h hv k;have l:=h a Rs;have c:Dg d:=λb hb=>h b (Ru _ hb);have:=gP c;simp only [val] at hv;cases k with
    | zero=>simp only [be,List.getD_cons_zero];omega
    | succ k=>have:=j c (by omega) k;simpa only [be,List.getD_cons_succ] using this
  have g:d.length= (d.length - 1)+1:=by have:=US.2 i;omega
  exact f _ g (this d h h1.symm _)
theorem bZ{v:Int}(h: 0<=v/\v < 18446744073709551616):u64.wrap v=v:=by rw [p9];omega
theorem z6{d:List Int}{i:Nat}(hi:i < d.length)(v:Int):bI (i:Int).toNat 0 [T.int .u32 v] (aM d)=some (aM (d.set i v)):=by have h1:=dm hi;simp only [bI,h1];simp [bQ,aM,Uk]
abbrev lu(e:Bool)(d:List Int):AV:=AV.t (T.ae 1 e (aM d))
def fc:List Int->List Int->Int->List Int
 | [],_,c=> [c]
 | a::x,[],c=>((c+a) % 4294967296)::fc x [] ((c+a) / 4294967296)
 | a::x,b::y,c=>((c+a+b) % 4294967296)::fc x y ((c+a+b) / 4294967296)
theorem Dg.tail{a:Int}{d:List Int}(h:Dg (a::d)):Dg d:=λb hb=>h b (Ru _ hb)
theorem yn:∀{x y:List Int} {c:Int},y.length<=x.length->val (fc x y c)=c+val x+val y
 | [],[],c,_=>by simp [fc,val]
 | [],b::y,c,h=>by simp at h
 | a::x,[],c,h=>by have:=yn (x:=x) (y:= []) (c:=(c+a) / 4294967296) (by simp);simp only [fc,val] at this⊢;rw [this];omega
 | a::x,b::y,c,h=>by have:=yn (x:=x) (y:=y) (c:=(c+a+b) / 4294967296) (by simpa using h);simp only [fc,val] at this⊢;rw [this];omega
theorem yl:∀{x y:List Int} {c:Int},Dg x->Dg y->0<=c/\c<=1->Dg (fc x y c)
 | [],_,c,_,_,f=>by intro a e;simp only [fc,RF] at e;subst e;omega
 | a::x,[],c,d,hy,f=>by
  have h1:=d a Rs;have:=yl (x:=x) (y:= []) (c:=(c+a) / 4294967296) d.tail hy (by omega);intro b hb;simp only [fc] at hb;rcases RC.1 hb with rfl | hb
  .omega
  .exact this b hb
 | a::x,b::y,c,d,hy,f=>by
  have h1:=d a Rs;have g:=hy b Rs;have:=yl (x:=x) (y:=y) (c:=(c+a+b) / 4294967296) d.tail hy.tail (by omega);intro u hu;simp only [fc] at hu;rcases RC.1 hu with rfl | hu
  .omega
  .exact this u hu
theorem ym:∀{x y:List Int} {c:Int},(fc x y c).length=x.length+1
 | [],_,c=>rfl
 | a::x,[],c=>by simp [fc,ym]
 | a::x,b::y,c=>by simp [fc,ym]
theorem yf(a:List Int)(b v:Int)(r:List Int)(i:Nat)(h:a.length=i):(a++b::r).set i v=a++v::r:=by subst h;simp
theorem kZ{d:List Int}{i:Nat}{r:Int}{a:List Int}(h:d.drop i=r::a):be d i=r:=by obtain⟨b,_,_⟩:=bG h;simp [be,Rr,b]
theorem mV{v:Int}:v.fdiv ((2:Int) ^ 32)=v / 4294967296:=by rw [show((2:Int) ^ 32)=4294967296 from by decide,SE _ (by omega)]
theorem iQ(n:Nat): 0 < (4294967296:Int) ^ n:=Int.pow_pos (by decide)
theorem jT:∀{d:List Int},Dg d->val d < 4294967296 ^ d.length
 | [],_=>by simp [val]
 | a::d,h=>by have h1:=h a Rs;have b:=jT h.tail;simp only [val,RP,T6];omega
theorem Dg.take{d:List Int}(h:Dg d)(n:Nat):Dg (d.take n):=λa b=>h a (Tl b)
theorem sf{d:List Int}{k:Nat}(a:k < d.length):val (d.take (k+1))=val (d.take k)+4294967296 ^ k * be d k:=by
 have:d.take (k+1)=d.take k++ [be d k]:=by rw [Ue,Rv a];simp [be,Rr,a]
 rw [this,hJ,So,VN (by omega)];simp [val]
theorem zG{d:List Int}{k:Nat}(h:Dg d)(c:Can d)(b:d.length=k+1): 4294967296 ^ k<=val d:=by
 have h1:=sf (d:=d) (k:=k) (by omega);rw [<-b,Uo] at h1;have e:=c k b;have f:=gP (h.take k);have g: 0<=be d k:=by
  have a:k < d.length:=by omega
  have:be d k∈d:=by simp only [be,Rr,Rv a,RQ];exact S9 a
  exact(h _ this).1
 have i:(4294967296:Int) ^ k * 1<=4294967296 ^ k * be d k:=RG (by omega) (S8 (iQ k));omega
def dX(u v:Int):Int:=if u < v then -1 else if u=v then 0 else 1
theorem Kb(u v w:Int):dX (u+w) (v+w)=dX u v:=by
 have h1:u+w < v+w↔u < v:=by omega
 have a:u+w=v+w↔u=v:=by omega
 unfold dX;simp only [h1,a]
theorem DS{a b:List Int}{k:Nat}(f:Dg a)(hb:Dg b)(c:k < a.length)(d:k < b.length)(h:be a k < be b k):val (a.take (k+1)) < val (b.take (k+1)):=by rw [sf c,sf d];have h1:=jT (f.take k);rw [So,VN (by omega)] at h1;have g:=gP (hb.take k);have e:(4294967296:Int) ^ k * (be a k+1)<=4294967296 ^ k * be b k:=RG (by omega) (S8 (iQ k));rw [R7,UP] at e;omega
theorem xv{a b:List Int}(c:Dg a)(hb:Dg b)(d:Can b)(h:a.length < b.length):val a < val b:=by
 have h1:=jT c;have e:=zG (k:=b.length - 1) hb d (by omega);have f:(4294967296:Int) ^ a.length<=4294967296 ^ (b.length - 1):=by
  have:b.length - 1=a.length+ (b.length - 1 - a.length):=by omega
  rw [this,UQ];have g:(4294967296:Int) ^ a.length * 1<=4294967296 ^ a.length * 4294967296 ^ (b.length - 1 - a.length):=RG (by have:=iQ (b.length - 1 - a.length);omega) (S8 (iQ _));omega
 omega
def cO(v:Int):Int:=if v < 0 then 1 else 0
def fm:List Int->List Int->Int->List Int
 | [],_,_=> []
 | a::x,[],c=>((a - c) % 4294967296)::fm x [] (cO (a - c))
 | a::x,b::y,c=>((a - c - b) % 4294967296)::fm x y (cO (a - c - b))
theorem AZ:∀{x y:List Int} {c:Int},Dg x->Dg y->y.length<=x.length->0<=c/\c<=1->val y+c<=val x->val (fm x y c)=val x - val y - c
 | [],[],c,_,_,_,e,h=>by simp [fm,val] at h⊢;omega
 | [],b::y,c,_,_,h,_,_=>by simp at h
 | a::x,[],c,d,hy,f,e,h=>by have h1:=d a Rs;simp only [val] at h;have:=AZ (x:=x) (y:= []) (c:=cO (a - c)) d.tail hy (by simp) (by unfold cO;split <;> omega) (by simp only [val];unfold cO;split <;> omega);simp only [fm,val] at this⊢;rw [this];unfold cO;split <;> omega
 | a::x,b::y,c,d,hy,f,e,h=>by have h1:=d a Rs;have g:=hy b Rs;simp only [val] at h;have:=AZ (x:=x) (y:=y) (c:=cO (a - c - b)) d.tail hy.tail (by simpa using f) (by unfold cO;split <;> omega) (by unfold cO;split <;> omega);simp only [fm,val] at this⊢;rw [this];unfold cO;split <;> omega
theorem AX:∀{x y:List Int} {c:Int},Dg (fm x y c)
 | [],_,c=>by intro a d;simp [fm] at d
 | a::x,[],c=>by
  intro u hu;simp only [fm] at hu;rcases RC.1 hu with rfl | hu
  .omega
  .exact AX u hu
 | a::x,b::y,c=>by
  intro u hu;simp only [fm] at hu;rcases RC.1 hu with rfl | hu
  .omega
  .exact AX u hu
theorem AY:∀{x y:List Int} {c:Int},(fm x y c).length=x.length
 | [],_,c=>rfl
 | a::x,[],c=>by simp [fm,AY]
 | a::x,b::y,c=>by simp [fm,AY]
theorem Ar{v:Int}(h: -1000000000000<=v/\v<=1000000000000):(u64.wrap v).fdiv ((2:Int) ^ 63)=cO v:=by rw [show((2:Int) ^ 63)=9223372036854775808 from by decide,SE _ (by omega),p9];unfold cO;split <;> omega
theorem Cq(v:Int):u32.wrap (u64.wrap v)=v % 4294967296:=by rw [eY,p9];omega
theorem Cr(v b:Int):u64.wrap (u64.wrap v - b)=u64.wrap (v - b):=by simp only [p9];omega
open Go Go.Aev Go.Aev.Gen Go.IntKind
def CU(z:Int)(n:Nat)(r:Option (List T)):Prop:= ∃s e d,r=some [T.aD,tb s,T.ae 1 e (aM d)]/\kO z s d/\d.length<=n
theorem tt:(true==true)=true:=rfl
open Go Go.Aev Go.Aev.Gen Go.IntKind
def hH(a:Int):List Int->List Int->Int->List Int
 | [],[],_=> []
 | [],_::r,c=>c::r
 | _::_,[],_=> []
 | b::y,o::r,c=>((c+a * b+o) % 4294967296)::hH a y r ((c+a * b+o) / 4294967296)
theorem lr{a b:Int}(c: 0<=a/\a < 4294967296)(hb: 0<=b/\b < 4294967296): 0<=a * b/\a * b<=18446744065119617025:=by have h1: 0<=a * b:=SK c.1 hb.1;have d:a * b<=4294967295 * 4294967295:=Int.mul_le_mul (by omega) (by omega) hb.1 (by omega);omega
theorem Gx{a:Int}(e: 0<=a/\a < 4294967296):∀{y o r:List Int} {c:Int},y.length=o.length->val (hH a y (o++0::r) c)=c+a * val y+val (o++0::r)
 | [],[],r,c,_=>by simp [hH,val]
 | [],o::os,r,c,h=>by simp at h
 | b::y,[],r,c,h=>by simp at h
 | b::y,o::os,r,c,h=>by
  have:=Gx e (y:=y) (o:=os) (r:=r) (c:=(c+a * b+o) / 4294967296) (by simpa using h);simp only [Rx,hH,val] at this⊢;have d:a * (b+4294967296 * val y)=a * b+4294967296 * (a * val y):=by rw [R7,Si]
  rw [this,d];omega
theorem Gv{a:Int}:∀{y o:List Int} {c:Int},(hH a y o c).length=o.length
 | [],[],_=>rfl
 | [],_::r,c=>rfl
 | _::_,[],_=>rfl
 | b::y,o::r,c=>by simp [hH,Gv]
theorem Gu{a:Int}(e: 0<=a/\a < 4294967296):∀{y o:List Int} {c:Int},Dg y->Dg o->0<=c/\c < 4294967296->Dg (hH a y o c)
 | [],[],_,_,_,_=>by intro u hu;simp [hH] at hu
 | [],_::r,c,_,d,f=>by
  intro u hu;simp only [hH] at hu;rcases RC.1 hu with rfl | hu
  .exact f
  .exact d u (Ru _ hu)
 | _::_,[],_,_,_,_=>by intro u hu;simp [hH] at hu
 | b::y,o::r,c,hy,d,f=>by
  have h1:=d o Rs;have g:=lr e (hy b Rs);have:=Gu e (y:=y) (o:=r) (c:=(c+a * b+o) / 4294967296) hy.tail d.tail (by omega);intro u hu;simp only [hH] at hu;rcases RC.1 hu with rfl | hu
  .omega
  .exact this u hu
theorem wu(a:List Int)(b:Int)(r:List Int)(i:Nat)(h:a.length=i):be (a++b::r) i=b:=by subst h;simp [be,Rr]
theorem Gw{a:Int}:∀{y o r:List Int} {q c:Int},y.length=o.length->hH a y (o++q::r) c=hH a y (o++ [q]) c++r
 | [],[],r,q,c,_=>rfl
 | [],o::os,r,q,c,h=>by simp at h
 | b::y,[],r,q,c,h=>by simp at h
 | b::y,o::os,r,q,c,h=>by simp only [Rx,hH];rw [Gw (by simpa using h)]
theorem I7:∀n:Nat,val (List.replicate n 0)=0
 | 0=>rfl
 | n+1=>by simp only [Sj,val,I7 n];omega
open Go Go.Aev Go.Aev.Gen Go.IntKind
theorem OL{z:Int}{s:Bool}{d:List Int}(h:kO z s d):val d= (z.natAbs:Int):=by have h1:=h.z;have a:=gP h.dg;unfold num at h1;split at h1 <;> omega
theorem Bs{n m:Nat}(h:n<=m):(4294967296:Int) ^ n<=4294967296 ^ m:=by
 have:m=n+ (m - n):=by omega
 rw [this,UQ];have a:(4294967296:Int) ^ n * 1<=4294967296 ^ n * 4294967296 ^ (m - n):=RG (by have:=iQ (m - n);omega) (S8 (iQ _));omega
theorem OM{z:Int}{s:Bool}{d:List Int}(h:kO z s d)(n:Nat)(hz:(z.natAbs:Int) < 4294967296 ^ n):d.length<=n:=by
 rcases UE n d.length with a | a
 .exfalso;have h1:=zG (k:=d.length - 1) h.dg h.can (by omega);rw [OL h] at h1;have b:(4294967296:Int) ^ n<=4294967296 ^ (d.length - 1):=Bs (by omega);omega
 .exact a
theorem Pz(a b:Nat)(hb:b < 2 ^ 32):a * 2 ^ 32 ||| b=a * 2 ^ 32+b:=by rw [Nat.mul_comm,Vx hb]
theorem tW{v n:Int}(hv: 0<=v/\v < 4294967296)(f: 0<=n/\n < 4294967296):
  u64.wrap (((BitVec.ofInt 64 (u64.wrap (v * (2:Int) ^ 32)) ||| BitVec.ofInt 64 (u64.wrap n)).toNat:Nat):Int)=v * 4294967296+n:=by
 obtain⟨a,rfl⟩:=Tz hv.1;obtain⟨b,rfl⟩:=Tz f.1;have h1:u64.wrap ((a:Int) * (2:Int) ^ 32)= ((a * 2 ^ 32:Nat):Int):=by rw [show((2:Int) ^ 32)=4294967296 from by decide,bZ (by omega)];omega
 have e:u64.wrap (b:Int)= ((b:Nat):Int):=bZ (by omega);have c:(a * 2 ^ 32) % 2 ^ 64=a * 2 ^ 32:=TI (by omega);have d:b % 2 ^ 64=b:=TI (by omega);rw [h1,e,Uh,Uh,BitVec.toNat_or,Uv,Uv,c,d,Pz a b (by omega),bZ (by omega)];omega
open Go Go.Aev Go.Aev.Gen Go.IntKind
section
variable {U V P w0 v0 u2 v2 v1 Tt q qh rh:Int}
theorem MI(l: 0 < P)(m:U=w0+P * u2+4294967296 * (P * Tt))(d:V=v0+P * v2+4294967296 * (P * v1))(n: 0<=w0/\w0 < P)(b: 0<=v0)(g:u2 < 4294967296)(c: 0<=v2)(a: 0<=q)(f:q * V<=U):q * v1<=Tt:=by
 rcases Th Tt (q * v1) with h | h
 .exfalso;have h1:P * (Tt+1)<=P * (q * v1):=RG (by omega) (by omega);have i:P * u2<=P * 4294967295:=RG (by omega) (by omega);have j: 0<=q * v0:=SK a b;have k: 0<=P * (q * v2):=SK (by omega) (SK a c);have e:q * V=q * v0+P * (q * v2)+4294967296 * (P * (q * v1)):=by
   rw [d,R7,R7,Si q P,Si q 4294967296,Si q P]
  rw [R7] at h1;omega
 .exact h
theorem MJ(k: 0 < P)(l:U=w0+P * u2+4294967296 * (P * Tt))(d:V=v0+P * v2+4294967296 * (P * v1))(o: 0<=w0/\w0 < P)(b: 0<=v0)(a: 0<=qh)(c:qh * v1+rh=Tt)(n:q * V<=U)(m:qh * v2 > rh * 4294967296+u2)(f: 0 < V):q<=qh - 1:=by
 have h1:U < qh * V:=by
  have e:qh * V=qh * v0+P * (qh * v2)+4294967296 * (P * (qh * v1)):=by rw [d,R7,R7,Si qh P,Si qh 4294967296,Si qh P]
  have i:P * (rh * 4294967296+u2+1)<=P * (qh * v2):=RG (by omega) (by omega);have j: 0<=qh * v0:=SK a b;have g:P * Tt=P * (qh * v1)+P * rh:=by rw [<-c,R7]
  have e3:P * (rh * 4294967296+u2+1)=4294967296 * (P * rh)+P * u2+P:=by rw [R7,R7,UP,<-SA P rh,RW (P * rh)]
  omega
 rcases Th (qh - 1) q with h | h
 .exfalso;have:qh * V<=q * V:=R2 (by omega) (by omega);omega
 .exact h
theorem FU(n: 0 < P)(o:U=w0+P * u2+4294967296 * (P * Tt))(g:V=v0+P * v2+4294967296 * (P * v1))(p: 0<=w0)(b: 0<=v0/\v0 < P)(d: 0<=v2)(c: 1<=v1)(a: 0<=qh/\qh<=4294967296)(f:qh * v1+rh=Tt)(h:qh * v2<=rh * 4294967296+u2):(qh - 1) * V<=U:=by
 have e:qh * V=qh * v0+P * (qh * v2)+4294967296 * (P * (qh * v1)):=by rw [g,R7,R7,Si qh P,Si qh 4294967296,Si qh P]
 have j:P * (qh * v2)<=P * (rh * 4294967296+u2):=RG h (by omega);have e3:P * (rh * 4294967296+u2)=4294967296 * (P * rh)+P * u2:=by rw [R7,<-SA P rh,RW (P * rh)]
 have i:P * Tt=P * (qh * v1)+P * rh:=by rw [<-f,R7]
 have k:qh * v0<=4294967296 * v0:=R2 a.2 b.1;have l:P * 1<=P * v1:=RG c (by omega);have m: 0<=P * v2:=SK (by omega) d;have e4:(qh - 1) * V=qh * V - V:=by rw [VR,SU]
 omega
end
theorem Dg.append{a b:List Int}(c:Dg a)(hb:Dg b):Dg (a++b):=λu hu=>by
 rcases RM.1 hu with hu | hu
 .exact c u hu
 .exact hb u hu
theorem Dg.left{a b:List Int}(h:Dg (a++b)):Dg a:=λu c=>h u (RD _ c)
theorem Dg.right{a b:List Int}(h:Dg (a++b)):Dg b:=λu c=>h u (RE _ c)
def jI(q:Int):List Int->List Int->Int->Int->List Int
 | x::us,a::vs,c,b=>((x - (c+q * a) % 4294967296 - b) % 4294967296)::jI q us vs ((c+q * a) / 4294967296) (cO (x - (c+q * a) % 4294967296 - b))
 | us,_,_,_=>us
def fC(q:Int):List Int->List Int->Int->Int->Int×Int
 | x::us,a::vs,c,b=>fC q us vs ((c+q * a) / 4294967296) (cO (x - (c+q * a) % 4294967296 - b))
 | _,_,c,b=>(c,b)
theorem Dq(v:Int): 0<=cO v/\cO v<=1:=by unfold cO;split <;> omega
theorem Gr{q:Int}(g: 0<=q/\q < 4294967296):∀{us vs:List Int} {c b:Int},us.length=vs.length->Dg us->Dg vs->0<=c/\c < 4294967296->0<=b/\b<=1->
  val (jI q us vs c b)=val us - q * val vs - c - b+4294967296 ^ us.length * ((fC q us vs c b).1+ (fC q us vs c b).2)/\(jI q us vs c b).length=us.length/\Dg (jI q us vs c b)/\0<=(fC q us vs c b).1/\(fC q us vs c b).1 < 4294967296/\0<=(fC q us vs c b).2/\(fC q us vs c b).2<=1
 | [],[],c,b,_,_,_,e,hb=>by refine⟨by simp [jI,fC,val];omega,rfl,(by intro a f;cases f),e.1,e.2,hb.1,hb.2⟩
 | [],a::vs,c,b,h,_,_,_,_=>by simp at h
 | x::us,[],c,b,h,_,_,_,_=>by simp at h
 | x::us,a::vs,c,b,h,i,hv,e,hb=>by
  have o:=i x Rs;have f:=lr g (hv a Rs);obtain⟨k,l,m,n⟩:=Gr g (us:=us) (vs:=vs) (c:=(c+q * a) / 4294967296) (b:=cO (x - (c+q * a) % 4294967296 - b)) (by simpa using h) i.tail hv.tail (by omega) (Dq _);refine⟨?_,by simp [jI,l], ?_,by rw [fC];exact n⟩
  .simp only [jI,fC,val,RP,T6];rw [k];have j:q * (a+4294967296 * val vs)=q * a+4294967296 * (q * val vs):=by rw [R7,Si]
   rw [j,RW ((4294967296:Int) ^ us.length) 4294967296,SA];generalize (4294967296:Int) ^ us.length * _=K;unfold cO;split <;> omega
  .intro u d;simp only [jI] at d;rcases RC.1 d with rfl | d
   .omega
   .exact m u d
def fP:List Int->List Int->Int->List Int
 | x::us,a::vs,c=>((c+ (x+a)) % 4294967296)::fP us vs ((c+ (x+a)) / 4294967296)
 | us,_,_=>us
def jt:List Int->List Int->Int->Int
 | x::us,a::vs,c=>jt us vs ((c+ (x+a)) / 4294967296)
 | _,_,c=>c
theorem CW:∀{us vs:List Int} {c:Int},us.length=vs.length->Dg us->Dg vs->0<=c/\c<=1->
  val (fP us vs c)+4294967296 ^ us.length * jt us vs c=val us+val vs+c/\(fP us vs c).length=us.length/\Dg (fP us vs c)/\0<=jt us vs c/\jt us vs c<=1
 | [],[],c,_,_,_,d=>by exact⟨by simp [fP,jt,val],rfl,(by intro a e;cases e),d.1,d.2⟩
 | [],a::vs,c,h,_,_,_=>by simp at h
 | x::us,[],c,h,_,_,_=>by simp at h
 | x::us,a::vs,c,h,f,hv,d=>by
  have l:=f x Rs;have e:=hv a Rs;obtain⟨g,i,j,k⟩:=CW (us:=us) (vs:=vs) (c:=(c+ (x+a)) / 4294967296) (by simpa using h) f.tail hv.tail (by omega);refine⟨?_,by simp [fP,i], ?_,by rw [jt];exact k⟩
  .simp only [fP,jt,val,RP,T6];rw [RW ((4294967296:Int) ^ us.length) 4294967296,SA];generalize (4294967296:Int) ^ us.length * _=K at g⊢;omega
  .intro u b;simp only [fP] at b;rcases RC.1 b with rfl | b
   .omega
   .exact j u b
theorem Bb{a k m:Int}(hm: 0 < m):(a * m) % (k * m)= (a % k) * m:=by rw [RW a m,RW k m,Int.mul_emod_mul_of_pos _ _ hm,RW]
def fJ(m:Int):List Int->Int->List Int
 | [],c=> [c]
 | a::x,c=>((a * m) % 4294967296+c)::fJ m x (a * m / 4294967296)
theorem yg{m k:Int}(hm: 0 < m)(d: 4294967296=k * m):∀{x:List Int} {c:Int},Dg x->0<=c/\c < m->val (fJ m x c)=val x * m+c/\(fJ m x c).length=x.length+1/\Dg (fJ m x c)
 | [],c,_,o=>by
  have e: 0 < k:=by
   rcases Th 0 k with h | h
   .exact h
   .have:=SK (VK h) (S8 hm);rw [VS] at this;omega
  have f:m * 1<=m * k:=RG (by omega) (by omega);rw [RW m k,<-d] at f;refine⟨by simp [fJ,val],rfl,λa b=> ?_⟩;simp only [fJ,RF] at b;subst b;omega
 | a::x,c,h,o=>by
  have b:=h a Rs;have g: 0<=a * m:=SK b.1 (by omega);have h1:a * m < 4294967296 * m:=UI b.2 hm;have i:a * m / 4294967296 < m:=by rw [T3 (by decide),RW m];exact h1
  have j: 0<=a * m / 4294967296:=TR g (by decide);obtain⟨r,t,w⟩:=yg hm d (x:=x) (c:=a * m / 4294967296) h.tail ⟨j,i⟩;refine⟨?_,by simp [fJ,t], ?_⟩
  .simp only [fJ,val];rw [r,Uy,SA 4294967296 (val x) m];omega
  .intro u hu;simp only [fJ] at hu;rcases RC.1 hu with rfl | hu
   ·
    have p:(a * m) % 4294967296= (a % k) * m:=by
     conv=>lhs;rw [d]
     rw [Bb hm]
    have e: 0 < k:=by
     rcases Th 0 k with h | h
     .exact h
     .have:=SK (VK h) (S8 hm);rw [VS] at this;omega
    have y:=Tx a e;have l:=Ua a (show k≠0 by omega);have n:(a % k+1) * m<=k * m:=R2 (by omega) (by omega);have z: 0<=(a % k) * m:=SK l (by omega);rw [Uy,SU,<-d] at n;rw [p];omega
   .exact w u hu
def eK(m k:Int):List Int->List Int
 | []=> []
 | [a]=> [a / m]
 | a::b::r=>(a / m+ (b * k) % 4294967296)::eK m k (b::r)
theorem Ij{m k:Int}(hm: 0 < m)(c: 4294967296=k * m)(f: 0 < k):∀{x:List Int},Dg x->val (eK m k x)=val x / m/\(eK m k x).length=x.length/\Dg (eK m k x)
 | [],_=>by simp [eK,val,Dg]
 | [a],h=>by have d:=h a Rs;have h1: 0<=a / m:=TR d.1 (by omega);have w:a / m<=a:=Int.ediv_le_self _ d.1;refine⟨by simp [eK,val],rfl,λu hu=> ?_⟩;simp only [eK,RF] at hu;subst hu;omega
 | a::b::r,h=>by
  obtain⟨n,o,p⟩:=Ij hm c f (x:=b::r) h.tail;have d:=h a Rs;have hb:=h b (by simp);have e:(b * k) % 4294967296= (b % m) * k:=by
   conv=>lhs;rw [c,RW k m]
   rw [Bb f]
  refine⟨?_,by rw [eK,RP,o];rfl, ?_⟩
  .have g:val (a::b::r) / m=a / m+k * val (b::r):=by
    rw [show val (a::b::r)=a+4294967296 * val (b::r) from rfl]
    conv=>lhs;rw [c,RW k m,SA]
    rw [Int.add_mul_ediv_left _ _ (by omega)]
   have i:val (b::r) / m=b / m+k * val r:=by
    rw [show val (b::r)=b+4294967296 * val r from rfl]
    conv=>lhs;rw [c,RW k m,SA]
    rw [Int.add_mul_ediv_left _ _ (by omega)]
   have e3:=TK b m;rw [g];simp only [eK,val];rw [n,i,e];have e4: 4294967296 * (b / m+k * val r)=k * (m * (b / m))+4294967296 * (k * val r):=by
    rw [R7]
    conv=>lhs;rw [c,SA]
    rw [<-c]
   have e5:k * (b+4294967296 * val r)=k * (m * (b / m))+ (b % m) * k+4294967296 * (k * val r):=by
    rw [R7,Si k 4294967296]
    conv=>lhs;rw [<-e3,R7,RW k (b % m)]
   rw [e4,e5];omega
  .intro u hu;simp only [eK] at hu;rcases RC.1 hu with rfl | hu
   .rw [e];have y:=Tx b hm;have j:=Ua b (show m≠0 by omega);have l:(b % m+1) * k<=m * k:=R2 (by omega) (by omega);have z: 0<=(b % m) * k:=SK j (by omega);rw [Uy,SU,RW m k,<-c] at l;have A: 0<=a / m:=TR d.1 (by omega);have t:a / m < k:=by
     rw [T3 hm,<-c];exact d.2
    omega
   .exact p u hu
open Go Go.Aev Go.Aev.Gen Go.IntKind
abbrev u6(n:Int):AV:=AV.t (T.int .u64 n)
abbrev U2(ec0 ec1:Bool)(u a:List Int):List ab:= [ab.sl false 1 ec0 (aM u),ab.sl false 1 ec1 (aM a)]
def Good(a:List T->Prop)(r:Option (List T)):Prop:= ∃R,r=some R/\a R
theorem Good.step{b:List T->Prop}{r a:Option (List T)}(h:Good b a)(k:∀R,a=some R->r=some R):Good b r:=by obtain⟨R,h1,c⟩:=h;exact⟨R,k R h1,c⟩
theorem Kh{d:List Int}{i:Nat}{a:Int}(h:d[i]? =some a):be d i=a:=by simp [be,Rr,h]
theorem nx(i:Nat)(h:i<=100000):i64.wrap ((i:Int)+1)= ((i+1:Nat):Int):=next i h
theorem ad(i j:Nat)(h:i+j<=100000):i64.wrap ((i:Int)+ (j:Int))= ((i+j:Nat):Int):=by rw [Go.Aev.wr (by omega)];omega
theorem l9(a:List Int)(b:Int)(r:List Int)(i:Nat)(h:a.length=i):(aM (a++b::r))[((i:Nat):Int).toNat]? =some [T.int .u32 b]:=by rw [dm (by simp;omega),wu a b r i h]
theorem mA(a:List Int)(b v:Int)(r:List Int)(i:Nat)(h:a.length=i):bI (i:Int).toNat 0 [T.int .u32 v] (aM (a++b::r))=some (aM (a++v::r)):=by rw [z6 (by simp;omega),yf a b v r i h]
section
variable (s:Nat) (ev ec0 ec1:Bool) (v:List Int) (lo hi:List Int)
theorem Cp(k:Nat)(h:k<=100000):i64.wrap ((k:Int) - 1)= (k:Int) - 1:=Go.Aev.wr (by omega)
end
theorem rL(n:Nat):((2:Int) ^ n)= ((2 ^ n:Nat):Int):=by rw [Int.natCast_pow];rfl
theorem tV{y z:Int}{n t:Nat}(f:n<=32)(hy: 0<=y/\y < (2:Int) ^ n)(hz:z= ((2 ^ n * t:Nat):Int))(hb:z < 4294967296)(b:z+y < 4294967296):
  u32.wrap (((BitVec.ofInt 32 y ||| BitVec.ofInt 32 z).toNat:Nat):Int)=z+y:=by
 obtain⟨a,rfl⟩:=Tz hy.1;have e:a < 2 ^ n:=by have:=hy.2;rw [rL] at this;omega
 have h: 2 ^ n * t < 4294967296:=by rw [hz] at hb;omega
 have g:(2:Nat) ^ n<=2 ^ 32:=TS (by decide) f;have c:a % 2 ^ 32=a:=TI (by omega);have d:(2 ^ n * t) % 2 ^ 32=2 ^ n * t:=TI (by omega);rw [hz,Uh,Uh,BitVec.toNat_or,Uv,Uv,c,d,Nat.or_comm,<-Vx e,eY];have: 2 ^ n * t+a < 4294967296:=by rw [hz] at b;omega
 rw [<-Int.natCast_add];omega
theorem lE(n:Nat): 0 < (2:Int) ^ n:=Int.pow_pos (by decide)
theorem ue{n:Nat}(h:n<=32):(4294967296:Int)=2 ^ (32 - n) * 2 ^ n:=by rw [<-UQ,show 32 - n+n=32 from by omega];decide
theorem Gk{a m k:Int}(hm: 0 < m)(b: 4294967296=k * m):(a * m) % 4294967296= (a % k) * m:=by
 conv=>lhs;rw [b]
 rw [Bb hm]
open Go Go.Aev Go.Aev.Gen Go.IntKind
def CR(X Y:Int)(L:Nat)(R:List T):Prop:= ∃a Q b Z,R= [T.ae 1 a (aM Q),T.ae 1 b (aM Z)]/\Dg Q/\Dg Z/\val Q=X / Y/\val Z=X % Y/\Q.length<=L/\Z.length<=L
theorem mM{b:Type}{l:List b}{n:Nat}(h:l.length=n+1):∃a x,l=a++ [x]/\a.length=n:=by
 rcases List.eq_nil_or_concat l with rfl | ⟨a,x,rfl⟩
 .simp at h
 .exact⟨a,x,by simp,by simpa using h⟩
def Cw(s L:Nat)(V N0:Int)(n:Nat)(R:List T):Prop:= ∃b Q c Z a,R= [T.ae 1 b (aM Q),T.ae 1 c (aM Z)]/\Dg Q/\Dg Z/\Q.length=L/\Z.length=n/\0<=a/\a < V/\val Q * V+a=N0/\val Z=a / 2 ^ s
structure CQ (s:Nat) (x y UU VV:List Int) (V2:List Int) (w2 w1:Int):Prop where
 hs:s < 32
 vv:VV=V2++ [w2] ++ [w1] ++ [0]
 dV:Dg (V2++ [w2,w1])
 h1: 1<=w1
 Ra:val (V2++ [w2,w1])=val y * 2 ^ s
 ly:y.length=V2.length+2
 ge: 4294967296 ^ (V2.length+1)<=val y
 dU:Dg UU
 I5:val UU=val x * 2 ^ s
 lu:UU.length=x.length+1
theorem MV{x y':List Int}{b a:Int}(T:Dg x)(hy:Dg (y'++ [b,a]))(h1: 1<=a)(s:Nat)(hs:s < 32)(w:a * 2 ^ s < 4294967296):
  ∃g w2 Z,g.length=y'.length/\CQ s x (y'++ [b,a]) (fJ (2 ^ s) x 0) (fJ (2 ^ s) (y'++ [b,a]) 0) g w2 Z:=by
 have p:(y'++ [b,a]).length=y'.length+2:=by simp
 have m:=lE s;have z:=ue (n:=s) (by omega);obtain⟨v1,N,t⟩:=yg m z (x:=y'++ [b,a]) (c:=0) hy ⟨U5 _,m⟩;obtain⟨M,u2,Y⟩:=yg m z (x:=x) (c:=0) T ⟨U5 _,m⟩;generalize fJ (2 ^ s) (y'++ [b,a]) 0=O at *
 generalize fJ (2 ^ s) x 0=UU at *
 rw [TT] at v1 M;have y:=hJ y' [b,a];have W:=jT hy.left;have hy2:=hy b (by simp);have hy1:=hy a (by simp);have hPp:=iQ y'.length;obtain⟨C,r,rfl,o⟩:=mM (l:=O) (n:=y'.length+2) (by rw [N,p]);have dvt:=t r (by simp);have u:=hJ C [r];rw [o] at u;simp only [val,Up,TT] at u y;have R:=gP t.left;have E:val (y'++ [b,a]) * 2 ^ s < 4294967296 ^ (y'.length+2):=by
  have G:val (y'++ [b,a])<=4294967296 ^ (y'.length+1) * (a+1) - 1:=by
   have J:=jT (d:=y'++ [b]) (by
    have:y'++ [b,a]= (y'++ [b])++ [a]:=by simp
    rw [this] at hy;exact hy.left)
   have e:=hJ (y'++ [b]) [a];rw [show(y'++ [b])++ [a]=y'++ [b,a] from by simp] at e;simp only [val,Up,TT,Sw,RP,Su,RY] at e J;rw [R7,UP];omega
  have A:(a+1) * (2:Int) ^ s<=4294967296:=by rw [z] at w⊢;have:a < 2 ^ (32 - s):=VA w (by omega);exact R2 (by omega) (by omega)
  have hpp:=iQ (y'.length+1);have X:val (y'++ [b,a]) * (2:Int) ^ s<=(4294967296 ^ (y'.length+1) * (a+1) - 1) * 2 ^ s:=R2 G (by omega);have m2:(4294967296:Int) ^ (y'.length+1) * ((a+1) * 2 ^ s)<=4294967296 ^ (y'.length+1) * 4294967296:=RG A (by omega);rw [VR,SU,SA] at X;rw [show y'.length+2=y'.length+1+1 from rfl,T6 4294967296 (y'.length+1)];omega
 have K:r=0:=by
  rcases Th 0 r with h | h
  .exfalso;have:(4294967296:Int) ^ (y'.length+2) * 1<=4294967296 ^ (y'.length+2) * r:=RG (by omega) (S8 (iQ _));omega
  .omega
 subst K;have j:val C=val (y'++ [b,a]) * 2 ^ s:=by omega
 obtain⟨V1,i,rfl,D⟩:=mM o;obtain⟨g,f,rfl,k⟩:=mM D;have I:g++ [f] ++ [i]=g++ [f,i]:=by simp
 rw [I] at j t o;have dV:=t.left;have B: 4294967296 ^ (y'.length+1)<=val (y'++ [b,a]):=by rw [y,T6];have:(4294967296:Int) ^ y'.length * (4294967296 * 1)<=4294967296 ^ y'.length * (b+4294967296 * a):=RG (by omega) (by omega);have:=gP hy.left;omega
 have H: 1<=(2:Int) ^ s:=by omega
 have S: 4294967296 ^ (y'.length+1)<=val (g++ [f,i]):=by rw [j];have:val (y'++ [b,a]) * 1<=val (y'++ [b,a]) * 2 ^ s:=RG H (by have:=iQ (y'.length+1);omega);omega
 have L: 1<=i:=by
  have dw1:=dV i (by simp);rcases Th i 1 with h | h
  .exfalso;have Q:i=0:=by omega
   subst Q;have e:=hJ (g++ [f]) [(0:Int)];have F:=jT (d:=g++ [f]) (by
    have:g++ [f,(0:Int)]= (g++ [f])++ [0]:=by simp
    rw [this] at dV;exact dV.left)
   rw [show g++ [f] ++ [(0:Int)]=g++ [f,0] from by simp] at e;simp only [val,Up,TT,Sw,RP,Su,k,RY] at e F;omega
  .exact h
 exact⟨g,f,i,k,hs,rfl,dV,L,j,by rw [p,k],by rw [k];exact B,Y,M,u2⟩
open Go Go.Aev Go.Aev.Gen Go.IntKind
open Go Go.Aev Go.Aev.Gen Go.IntKind
def jU(z:Int):Prop:=(z.natAbs:Int) < 4294967296 ^ 200
theorem jU.len{z:Int}{s:Bool}{d:List Int}(h:jU z)(r:kO z s d):d.length<=200:=OM r 200 h
theorem jU.le{z w:Int}(h:jU z)(a:w.natAbs<=z.natAbs):jU w:=by
 unfold jU at *
 have:(w.natAbs:Int)<=(z.natAbs:Int):=by omega
 exact Int.lt_of_le_of_lt this h
def Sm(z:Int):Prop:= -9223372036854775808 < z/\z < 9223372036854775808
theorem Sm.fV{z:Int}(h:Sm z):jU z:=by
 unfold Sm at h;unfold jU;have h1:(4294967296:Int) ^ 2<=4294967296 ^ 200:=Bs (by omega);have a:(4294967296:Int) ^ 2=18446744073709551616:=by decide
 rw [a] at h1;exact Int.lt_of_lt_of_le (by omega) h1
def Jf(z:Int)(r:Option (List T)):Prop:= ∃s e d,r=some [T.aD,tb s,T.ae 1 e (aM d)]/\kO z s d
theorem CU.g{z:Int}{n:Nat}{r:Option (List T)}(h:CU z n r):Jf z r:=by obtain⟨s,e,d,a,k2,_⟩:=h;exact⟨s,e,d,a,k2⟩
abbrev r1:AV:=AV.ref (Id.c 1) 0
abbrev pt(s e:Bool)(d:List Int):T:=T.ptr [T.bool s,T.ae 1 e (aM d)]
theorem wi{z:Int}{s e:Bool}{d:List Int}(h:kO z s d):WI z (pt s e d):=⟨s,e,d,rfl,h⟩
def WR(q:Rat)(x:T):Prop:= ∃s e d s' b a,x=T.ptr [tb s,T.ae 1 e (aM d),tb s',T.ae 1 b (aM a)]/\kO q.num s d/\kO (q.den:Int) s' a
def LQ(q:Rat):Prop:=jU q.num/\jU (q.den:Int)
abbrev b4(s:Bool)(y:T)(t:Bool)(u:T):ab:=ab.box [AV.t (T.bool s),AV.t y,AV.t (T.bool t),AV.t u]
theorem D3{u v:Int}(hv:v≠0):(v < 0->(Rat.divInt u v).num= -(u.tdiv (Int.gcd u v:Nat))/\((Rat.divInt u v).den:Int)= -(v.tdiv (Int.gcd u v:Nat)))/\
  (¬v < 0->(Rat.divInt u v).num=u.tdiv (Int.gcd u v:Nat)/\((Rat.divInt u v).den:Int)=v.tdiv (Int.gcd u v:Nat)):=by
 have a:=Rat.num_divInt u v;have b:=Rat.den_divInt u v;rw [if_neg hv] at b;rw [Int.gcd_comm v u] at a b;have c:((Int.gcd u v:Nat):Int) ∣ u:=Int.gcd_dvd_left u v;have d:((Int.gcd u v:Nat):Int) ∣ v:=Int.gcd_dvd_right u v;have e:u.tdiv (Int.gcd u v:Nat)=u / (Int.gcd u v:Nat):=TA c;have f:v.tdiv (Int.gcd u v:Nat)=v / (Int.gcd u v:Nat):=TA d;rw [e,f];constructor
 .intro h;have hs:v.sign= -1:=SO h;rw [hs] at a;constructor
  .rw [a,show -1 * u= -u from by omega,UT c]
  .rw [b,Int.natCast_ediv,Int.ofNat_natAbs_of_nonpos (by omega),UT d]
 .intro h;have hs:v.sign=1:=SV (by omega);rw [hs,SU] at a;constructor
  .exact a
  .rw [b,Int.natCast_ediv,Vf (by omega)]
open Go Go.Aev Go.Aev.Gen Go.IntKind
theorem wr{q:Rat}{s e s' b:Bool}{d a:List Int}(h1:kO q.num s d)(c:kO (q.den:Int) s' a):WR q (T.ptr [tb s,T.ae 1 e (aM d),tb s',T.ae 1 b (aM a)]):=⟨s,e,d,s',b,a,rfl,h1,c⟩
theorem xX(q:Rat):(-q).num= -q.num:=rfl
theorem HJ(q:Rat):(-q).den=q.den:=rfl
theorem Gy(p q:Rat):Rat.divInt (p.num * q.num) ((p.den:Int) * (q.den:Int))=p * q:=by
 conv=>rhs;rw [<-Ty p,<-Ty q]
 rw [Rat.divInt_mul_divInt]
theorem CZ(p q:Rat):Rat.divInt (p.num * (q.den:Int)+q.num * (p.den:Int)) ((p.den:Int) * (q.den:Int))=p+q:=by
 conv=>rhs;rw [<-Ty p,<-Ty q]
 rw [Rat.divInt_add_divInt _ _ (by have:=p.den_pos;omega) (by have:=q.den_pos;omega)]
theorem wC(p q:Rat):(p.den:Int) * (q.den:Int)≠0:=by have h1:=p.den_pos;have a:=q.den_pos;exact Int.mul_ne_zero (by omega) (by omega)
theorem LQ.neg{q:Rat}(h:LQ q):LQ (-q):=⟨h.1.le (by rw [xX];omega),h.2⟩
open Go Go.Aev Go.Aev.Gen Go.IntKind
theorem wF{u v:Int}(hv:v≠0):(Rat.divInt u v).num.natAbs<=u.natAbs/\(Rat.divInt u v).den<=v.natAbs:=by
 obtain⟨h1,c⟩:=D3 (u:=u) hv;have d:(u.tdiv (Int.gcd u v:Nat)).natAbs<=u.natAbs:=by rw [Int.natAbs_tdiv];exact Nat.div_le_self _ _
 have e:(v.tdiv (Int.gcd u v:Nat)).natAbs<=v.natAbs:=by rw [Int.natAbs_tdiv];exact Nat.div_le_self _ _
 by_cases h:v < 0
 .obtain⟨a,b⟩:=h1 h;constructor <;> omega
 .obtain⟨a,b⟩:=c h;constructor <;> omega
def QB(m:Nat)(q:Rat):Prop:=q.num.natAbs<=2 ^ m/\q.den<=2 ^ m
theorem Ov(k:Nat):(4294967296:Int) ^ k= ((2 ^ (32 * k):Nat):Int):=by rw [Nat.pow_mul,Int.natCast_pow];rfl
theorem M4{m k:Nat}{z:Int}(hm:m < 32 * k)(h:z.natAbs<=2 ^ m):(z.natAbs:Int) < 4294967296 ^ k:=by rw [Ov k];exact Int.ofNat_lt.2 (Nat.lt_of_le_of_lt h (Nat.pow_lt_pow_right (by omega) hm))
theorem A3{m:Nat}{z:Int}(hm:m<=6300)(h:z.natAbs<=2 ^ m):jU z:=M4 (by omega) h
theorem QB.lq{m:Nat}{q:Rat}(h:QB m q)(hm:m<=6300):LQ q:=⟨A3 hm h.1,A3 hm (by simpa using h.2)⟩
theorem QB.mono{m k:Nat}{q:Rat}(h:QB m q)(hm:m<=k):QB k q:=
 ⟨R4 h.1 (TS (by omega) hm),R4 h.2 (TS (by omega) hm)⟩
theorem jn{a b m k:Nat}(c:a<=2 ^ m)(hb:b<=2 ^ k):a * b<=2 ^ (m+k):=by rw [Nat.pow_add];exact UD c hb
theorem QB.mul{m k:Nat}{p q:Rat}(a:QB m p)(b:QB k q):QB (m+k) (p * q):=by
 rw [<-Gy];obtain⟨h1,c⟩:=wF (u:=p.num * q.num) (wC p q);refine⟨R4 h1 ?_,R4 c ?_⟩
 .rw [Sq];exact jn a.1 b.1
 .rw [Sq,R8,R8];exact jn a.2 b.2
theorem zk{m k:Nat}{p q:Rat}(a:QB m p)(b:QB k q):(p.num * (q.den:Int)+q.num * (p.den:Int)).natAbs<=2 ^ (m+k+1):=by
 have h1:(p.num * (q.den:Int)).natAbs<=2 ^ (m+k):=by rw [Sq,R8];exact jn a.1 b.2
 have c:(q.num * (p.den:Int)).natAbs<=2 ^ (m+k):=by rw [Sq,R8,Ve m k];exact jn b.1 a.2
 have d:=Int.natAbs_add_le (p.num * (q.den:Int)) (q.num * (p.den:Int));rw [Nat.pow_succ];omega
theorem QB.add{m k:Nat}{p q:Rat}(a:QB m p)(b:QB k q):QB (m+k+1) (p+q):=by rw [<-CZ];obtain⟨h1,c⟩:=wF (u:=p.num * (q.den:Int)+q.num * (p.den:Int)) (wC p q);refine⟨R4 h1 (zk a b),R4 c ?_⟩;rw [Sq,R8,R8];exact R4 (jn a.2 b.2) (TS (by omega) (by omega))
theorem QB.neg{m:Nat}{q:Rat}(h:QB m q):QB m (-q):=⟨by rw [xX,Vq];exact h.1,h.2⟩
theorem QB.sub{m k:Nat}{p q:Rat}(a:QB m p)(b:QB k q):QB (m+k+1) (p - q):=by rw [Rat.sub_eq_add_neg];exact a.add b.neg
theorem QB.divInt{m:Nat}{u v:Int}(hv:v≠0)(h1:u.natAbs<=2 ^ m)(c:v.natAbs<=2 ^ m):QB m (Rat.divInt u v):=by obtain⟨a,b⟩:=wF (u:=u) hv;exact⟨R4 a h1,R4 b c⟩
theorem uA{m k:Nat}{p q:Rat}(a:QB m p)(b:QB k q):(p.num * (q.den:Int) - q.num * (p.den:Int)).natAbs<=2 ^ (m+k+1):=by have:=zk a b.neg;rw [xX,HJ,VS,<-Int.sub_eq_add_neg] at this;exact this
abbrev Fr:=Int×Int
def dN(l:List Fr):List (List T):=l.map λx=> [ti x.1,ti x.2]
abbrev LN(e:Bool)(l:List Fr):AV:=AV.t (T.ae 2 e (dN l))
theorem fh(l:List Fr):(dN l).length=l.length:=by simp [dN]
theorem oa{l:List Fr}{i:Nat}{r:Fr}(h:l[i]? =some r):(dN l)[((i:Nat):Int).toNat]? =some [ti r.1,ti r.2]:=by simp [dN,h]
def bw(x:Fr):Prop:=1<=x.2/\x.2<=1073741824/\ -1073741824<=x.1/\x.1<=1073741824/\Int.gcd x.1 x.2=1
instance (x:Fr):Decidable (bw x):=by unfold bw;infer_instance
def aY(x:Fr):Rat:=Rat.divInt x.1 x.2
theorem Mq{x:Fr}(h1: 1<=x.2/\x.2<=1073741824)(a: -1073741824<=x.1/\x.1<=1073741824):QB 30 (aY x):=QB.divInt (by omega) (by omega) (by omega)
def mF(x:Fr):Prop:=(1<=x.2/\x.2<=1073741824)/\ -1073741824<=x.1/\x.1<=1073741824
theorem bw.b{x:Fr}(h:bw x):mF x:=⟨⟨h.1,h.2.1⟩,h.2.2.1,h.2.2.2.1⟩
end Go.Aev.Wd
