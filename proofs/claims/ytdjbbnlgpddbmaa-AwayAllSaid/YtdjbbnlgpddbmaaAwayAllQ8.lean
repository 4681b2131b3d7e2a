import Derived.Test.YtdjbbnlgpddbmaaAwayAllQ6
set_option linter.all false
namespace Go.Aev.Wd
open Go Go.Aev Go.Aev.Gen Go.IntKind
open Go Go.Aev Go.Aev.Gen Go.IntKind
def val:List Int->Int
 | []=>0
 | a::r=>a+4294967296 * val r
def Dg(d:List Int):Prop:= ∀a∈d,0<=a/\a < 4294967296
def aK(d:List Int):List (List T):=d.map λa=> [T.int .u32 a]
theorem bc(d:List Int):(aK d).length=d.length:=by simp [aK]
def aV(d:List Int)(i:Nat):Int:=d.getD i 0
theorem cJ{d:List Int}{i:Nat}(h:i < d.length):(aK d)[((i:Nat):Int).toNat]? =some [T.int .u32 (aV d i)]:=by simp [aK,aV,RO,h]
theorem gy:∀{d:List Int},Dg d->0<=val d
 | [],_=>US _
 | a::d,h=>by have h1:=h a RL;have c:=gy (d:=d) λb hb=>h b (RM _ hb);simp only [val];omega
theorem gL:∀(a b:List Int),val (a++b)=val a+4294967296 ^ a.length * val b
 | [],b=>by simp [val]
 | x::a,b=>by simp only [RU,val,gL a b,Sc,Um,Sk];rw [SQ,SC];omega
def kz(d:List Int):Nat->Nat
 | 0=>0
 | k+1=>if aV d k=0 then kz d k else k+1
def dX(d:List Int):List Int:=d.take (kz d d.length)
theorem I7(d:List Int):∀k,kz d k<=k
 | 0=>R3 _
 | k+1=>by
  rw [kz];split
  .have:=I7 d k;omega
  .exact R3 _
theorem I8{d:List Int}:∀k,k<=d.length->val (d.take (kz d k))=val (d.take k)
 | 0,_=>rfl
 | k+1,h=>by
  rw [kz];split
  .rename_i hz;rw [I8 k (by omega),T8,gL];have:d[k]? =some 0:=by
    have hk:k < d.length:=by omega
    simp only [aV,RO,RR hk,SJ] at hz;rw [RR hk,hz]
   rw [this];simp [val]
  .rfl
theorem rl(d:List Int):val (dX d)=val d:=by rw [dX,I8 d.length (R3 _),Ti]
theorem eC(v:Int):u32.wrap v=v % 4294967296:=by simp [IntKind.wrap,IntKind.signed,IntKind.bits]
theorem pA(v:Int):u64.wrap v=v % 18446744073709551616:=by simp [IntKind.wrap,IntKind.signed,IntKind.bits]
def Can(d:List Int):Prop:= ∀k,d.length=k+1->aV d k≠0
theorem I6{d:List Int}:∀k,k<=d.length->∀j,kz d k=j+1->aV d j≠0
 | 0,_,j,h=>by cases h
 | k+1,hk,j,h=>by
  rw [kz] at h;split at h
  .exact I6 k (by omega) j h
  .rename_i hz;simp only [Nat.add_right_cancel_iff] at h;subst h;exact hz
theorem KK{d:List Int}{n k:Nat}(h:k < n):aV (d.take n) k=aV d k:=by simp only [aV,RO,TA,if_pos h]
theorem rk(d:List Int):Can (dX d):=by
 intro k hk;have a:=I7 d d.length;have hl:(dX d).length=kz d d.length:=by unfold dX;rw [SD];omega
 rw [hl] at hk;have:=I6 d.length (R3 _) k hk;unfold dX;rw [KK (by omega)];exact this
theorem ou{d:List Int}(h:Dg d):Dg (dX d):=λa b=>h a (Td b)
def num(s:Bool)(d:List Int):Int:=if s=true then -val d else val d
structure kC (z:Int) (s:Bool) (d:List Int):Prop where
 dg:Dg d
 can:Can d
 sg:s=true->d≠[]
 z:num s d=z
def WI(z:Int)(x:T):Prop:= ∃s e d,x=T.ptr [tb s,T.ae 1 e (aK d)]/\kC z s d
theorem yZ{d:List Int}(h:Dg d)(f:Can d)(hn:d≠[]): 0 < val d:=by
 have e:=gy h;rcases Int.lt_or_eq_of_le e with h1 | h1
 .exact h1
 .exfalso;have:∀d:List Int,Dg d->val d=0->∀k,aV d k=0:=by
   intro d;induction d with
   | nil=>intro _ _ k;simp [aV]
   | cons a d g=>
    intro h hv k;have i:=h a RL;have c:Dg d:=λb hb=>h b (RM _ hb);have:=gy c;simp only [val] at hv;cases k with
    | zero=>simp only [aV,List.getD_cons_zero];omega
    | succ k=>have:=g c (by omega) k;simpa only [aV,List.getD_cons_succ] using this
  have hl:d.length= (d.length - 1)+1:=by have:=UI.2 hn;omega
  exact f _ hl (this d h h1.symm _)
theorem bN{v:Int}(h: 0<=v/\v < 18446744073709551616):u64.wrap v=v:=by rw [pA];omega
theorem zC{d:List Int}{i:Nat}(hi:i < d.length)(v:Int):bt (i:Int).toNat 0 [T.int .u32 v] (aK d)=some (aK (d.set i v)):=by have h1:=cJ hi;simp only [bt,h1];simp [bE,aK,Uk]
abbrev lu(e:Bool)(d:List Int):AV:=AV.t (T.ae 1 e (aK d))
def eK:List Int->List Int->Int->List Int
 | [],_,c=> [c]
 | a::x,[],c=>((c+a) % 4294967296)::eK x [] ((c+a) / 4294967296)
 | a::x,b::y,c=>((c+a+b) % 4294967296)::eK x y ((c+a+b) / 4294967296)
theorem Dg.tail{a:Int}{d:List Int}(h:Dg (a::d)):Dg d:=λb hb=>h b (RM _ hb)
theorem xC:∀{x y:List Int} {c:Int},y.length<=x.length->val (eK x y c)=c+val x+val y
 | [],[],c,_=>by simp [eK,val]
 | [],b::y,c,h=>by simp at h
 | a::x,[],c,h=>by have:=xC (x:=x) (y:= []) (c:=(c+a) / 4294967296) (by simp);simp only [eK,val] at this⊢;rw [this];omega
 | a::x,b::y,c,h=>by have:=xC (x:=x) (y:=y) (c:=(c+a+b) / 4294967296) (by simpa using h);simp only [eK,val] at this⊢;rw [this];omega
theorem xA:∀{x y:List Int} {c:Int},Dg x->Dg y->0<=c/\c<=1->Dg (eK x y c)
 | [],_,c,_,_,f=>by intro a e;simp only [eK,RP] at e;subst e;omega
 | a::x,[],c,d,hy,f=>by
  have h1:=d a RL;have:=xA (x:=x) (y:= []) (c:=(c+a) / 4294967296) d.tail hy (by omega);intro b hb;simp only [eK] at hb;rcases RV.1 hb with rfl | hb
  .omega
  .exact this b hb
 | a::x,b::y,c,d,hy,f=>by
  have h1:=d a RL;have g:=hy b RL;have:=xA (x:=x) (y:=y) (c:=(c+a+b) / 4294967296) d.tail hy.tail (by omega);intro u hu;simp only [eK] at hu;rcases RV.1 hu with rfl | hu
  .omega
  .exact this u hu
theorem xB:∀{x y:List Int} {c:Int},(eK x y c).length=x.length+1
 | [],_,c=>rfl
 | a::x,[],c=>by simp [eK,xB]
 | a::x,b::y,c=>by simp [eK,xB]
theorem po(a:List Int)(b v:Int)(r:List Int)(i:Nat)(h:a.length=i):(a++b::r).set i v=a++v::r:=by subst h;simp
theorem kL{d:List Int}{i:Nat}{r:Int}{a:List Int}(h:d.drop i=r::a):aV d i=r:=by obtain⟨b,_,_⟩:=bR h;simp [aV,RO,b]
theorem mE{v:Int}:v.fdiv ((2:Int) ^ 32)=v / 4294967296:=by rw [show((2:Int) ^ 32)=4294967296 from by decide,SY _ (by omega)]
theorem ix(n:Nat): 0 < (4294967296:Int) ^ n:=Int.pow_pos (by decide)
theorem jD:∀{d:List Int},Dg d->val d < 4294967296 ^ d.length
 | [],_=>by simp [val]
 | a::d,h=>by have h1:=h a RL;have b:=jD h.tail;simp only [val,Sc,Um];omega
theorem Dg.take{d:List Int}(h:Dg d)(n:Nat):Dg (d.take n):=λa b=>h a (Td b)
theorem ru{d:List Int}{k:Nat}(hk:k < d.length):val (d.take (k+1))=val (d.take k)+4294967296 ^ k * aV d k:=by
 have:d.take (k+1)=d.take k++ [aV d k]:=by rw [T8,RR hk];simp [aV,RO,hk]
 rw [this,gL,SD,Wi (by omega)];simp [val]
theorem yX{d:List Int}{k:Nat}(h:Dg d)(a:Can d)(hl:d.length=k+1): 4294967296 ^ k<=val d:=by
 have h1:=ru (d:=d) (k:=k) (by omega);rw [<-hl,Ti] at h1;have b:=a k hl;have c:=gy (h.take k);have e: 0<=aV d k:=by
  have hk:k < d.length:=by omega
  have:aV d k∈d:=by simp only [aV,RO,RR hk,SJ];exact Uf hk
  exact(h _ this).1
 have f:(4294967296:Int) ^ k * 1<=4294967296 ^ k * aV d k:=R1 (by omega) (Tf (ix k));omega
def dC(u v:Int):Int:=if u < v then -1 else if u=v then 0 else 1
theorem KE(u v w:Int):dC (u+w) (v+w)=dC u v:=by
 have h1:u+w < v+w↔u < v:=by omega
 have a:u+w=v+w↔u=v:=by omega
 unfold dC;simp only [h1,a]
theorem DH{a b:List Int}{k:Nat}(f:Dg a)(hb:Dg b)(c:k < a.length)(d:k < b.length)(h:aV a k < aV b k):val (a.take (k+1)) < val (b.take (k+1)):=by rw [ru c,ru d];have h1:=jD (f.take k);rw [SD,Wi (by omega)] at h1;have g:=gy (hb.take k);have e:(4294967296:Int) ^ k * (aV a k+1)<=4294967296 ^ k * aV b k:=R1 (by omega) (Tf (ix k));rw [Sk,Vb] at e;omega
theorem wB{a b:List Int}(c:Dg a)(hb:Dg b)(d:Can b)(h:a.length < b.length):val a < val b:=by
 have h1:=jD c;have e:=yX (k:=b.length - 1) hb d (by omega);have f:(4294967296:Int) ^ a.length<=4294967296 ^ (b.length - 1):=by
  have:b.length - 1=a.length+ (b.length - 1 - a.length):=by omega
  rw [this,Vc];have g:(4294967296:Int) ^ a.length * 1<=4294967296 ^ a.length * 4294967296 ^ (b.length - 1 - a.length):=R1 (by have:=ix (b.length - 1 - a.length);omega) (Tf (ix _));omega
 omega
def cm(v:Int):Int:=if v < 0 then 1 else 0
def eS:List Int->List Int->Int->List Int
 | [],_,_=> []
 | a::x,[],c=>((a - c) % 4294967296)::eS x [] (cm (a - c))
 | a::x,b::y,c=>((a - c - b) % 4294967296)::eS x y (cm (a - c - b))
theorem Ao:∀{x y:List Int} {c:Int},Dg x->Dg y->y.length<=x.length->0<=c/\c<=1->val y+c<=val x->val (eS x y c)=val x - val y - c
 | [],[],c,_,_,_,e,h=>by simp [eS,val] at h⊢;omega
 | [],b::y,c,_,_,h,_,_=>by simp at h
 | a::x,[],c,d,hy,hl,e,h=>by have h1:=d a RL;simp only [val] at h;have:=Ao (x:=x) (y:= []) (c:=cm (a - c)) d.tail hy (by simp) (by unfold cm;split <;> omega) (by simp only [val];unfold cm;split <;> omega);simp only [eS,val] at this⊢;rw [this];unfold cm;split <;> omega
 | a::x,b::y,c,d,hy,hl,e,h=>by have h1:=d a RL;have f:=hy b RL;simp only [val] at h;have:=Ao (x:=x) (y:=y) (c:=cm (a - c - b)) d.tail hy.tail (by simpa using hl) (by unfold cm;split <;> omega) (by unfold cm;split <;> omega);simp only [eS,val] at this⊢;rw [this];unfold cm;split <;> omega
theorem Al:∀{x y:List Int} {c:Int},Dg (eS x y c)
 | [],_,c=>by intro a d;simp [eS] at d
 | a::x,[],c=>by
  intro u hu;simp only [eS] at hu;rcases RV.1 hu with rfl | hu
  .omega
  .exact Al u hu
 | a::x,b::y,c=>by
  intro u hu;simp only [eS] at hu;rcases RV.1 hu with rfl | hu
  .omega
  .exact Al u hu
theorem Am:∀{x y:List Int} {c:Int},(eS x y c).length=x.length
 | [],_,c=>rfl
 | a::x,[],c=>by simp [eS,Am]
 | a::x,b::y,c=>by simp [eS,Am]
theorem zQ{v:Int}(h: -1000000000000<=v/\v<=1000000000000):(u64.wrap v).fdiv ((2:Int) ^ 63)=cm v:=by rw [show((2:Int) ^ 63)=9223372036854775808 from by decide,SY _ (by omega),pA];unfold cm;split <;> omega
theorem B3(v:Int):u32.wrap (u64.wrap v)=v % 4294967296:=by rw [eC,pA];omega
theorem B4(v b:Int):u64.wrap (u64.wrap v - b)=u64.wrap (v - b):=by simp only [pA];omega
open Go Go.Aev Go.Aev.Gen Go.IntKind
def CL(z:Int)(n:Nat)(r:Option (List T)):Prop:= ∃s e d,r=some [T.aS,tb s,T.ae 1 e (aK d)]/\kC z s d/\d.length<=n
theorem tt:(true==true)=true:=rfl
open Go Go.Aev Go.Aev.Gen Go.IntKind
def gH(a:Int):List Int->List Int->Int->List Int
 | [],[],_=> []
 | [],_::r,c=>c::r
 | _::_,[],_=> []
 | b::y,o::r,c=>((c+a * b+o) % 4294967296)::gH a y r ((c+a * b+o) / 4294967296)
theorem pa{a b:Int}(c: 0<=a/\a < 4294967296)(hb: 0<=b/\b < 4294967296): 0<=a * b/\a * b<=18446744065119617025:=by have h1: 0<=a * b:=S3 c.1 hb.1;have d:a * b<=4294967295 * 4294967295:=Int.mul_le_mul (by omega) (by omega) hb.1 (by omega);omega
theorem Gx{a:Int}(e: 0<=a/\a < 4294967296):∀{y o r:List Int} {c:Int},y.length=o.length->val (gH a y (o++0::r) c)=c+a * val y+val (o++0::r)
 | [],[],r,c,_=>by simp [gH,val]
 | [],o::os,r,c,h=>by simp at h
 | b::y,[],r,c,h=>by simp at h
 | b::y,o::os,r,c,h=>by
  have:=Gx e (y:=y) (o:=os) (r:=r) (c:=(c+a * b+o) / 4294967296) (by simpa using h);simp only [RU,gH,val] at this⊢;have d:a * (b+4294967296 * val y)=a * b+4294967296 * (a * val y):=by rw [Sk,SC]
  rw [this,d];omega
theorem Gv{a:Int}:∀{y o:List Int} {c:Int},(gH a y o c).length=o.length
 | [],[],_=>rfl
 | [],_::r,c=>rfl
 | _::_,[],_=>rfl
 | b::y,o::r,c=>by simp [gH,Gv]
theorem Gu{a:Int}(e: 0<=a/\a < 4294967296):∀{y o:List Int} {c:Int},Dg y->Dg o->0<=c/\c < 4294967296->Dg (gH a y o c)
 | [],[],_,_,_,_=>by intro u hu;simp [gH] at hu
 | [],_::r,c,_,d,f=>by
  intro u hu;simp only [gH] at hu;rcases RV.1 hu with rfl | hu
  .exact f
  .exact d u (RM _ hu)
 | _::_,[],_,_,_,_=>by intro u hu;simp [gH] at hu
 | b::y,o::r,c,hy,d,f=>by
  have h1:=d o RL;have g:=pa e (hy b RL);have:=Gu e (y:=y) (o:=r) (c:=(c+a * b+o) / 4294967296) hy.tail d.tail (by omega);intro u hu;simp only [gH] at hu;rcases RV.1 hu with rfl | hu
  .omega
  .exact this u hu
theorem vf(a:List Int)(b:Int)(r:List Int)(i:Nat)(h:a.length=i):aV (a++b::r) i=b:=by subst h;simp [aV,RO]
theorem Gw{a:Int}:∀{y o r:List Int} {q c:Int},y.length=o.length->gH a y (o++q::r) c=gH a y (o++ [q]) c++r
 | [],[],r,q,c,_=>rfl
 | [],o::os,r,q,c,h=>by simp at h
 | b::y,[],r,q,c,h=>by simp at h
 | b::y,o::os,r,q,c,h=>by simp only [RU,gH];rw [Gw (by simpa using h)]
theorem Jx:∀n:Nat,val (List.replicate n 0)=0
 | 0=>rfl
 | n+1=>by simp only [Sv,val,Jx n];omega
open Go Go.Aev Go.Aev.Gen Go.IntKind
theorem Pg{z:Int}{s:Bool}{d:List Int}(h:kC z s d):val d= (z.natAbs:Int):=by have h1:=h.z;have a:=gy h.dg;unfold num at h1;split at h1 <;> omega
theorem AW{n m:Nat}(h:n<=m):(4294967296:Int) ^ n<=4294967296 ^ m:=by
 have:m=n+ (m - n):=by omega
 rw [this,Vc];have a:(4294967296:Int) ^ n * 1<=4294967296 ^ n * 4294967296 ^ (m - n):=R1 (by have:=ix (m - n);omega) (Tf (ix _));omega
theorem Ph{z:Int}{s:Bool}{d:List Int}(h:kC z s d)(n:Nat)(hz:(z.natAbs:Int) < 4294967296 ^ n):d.length<=n:=by
 rcases UG n d.length with hl | hl
 .exfalso;have h1:=yX (k:=d.length - 1) h.dg h.can (by omega);rw [Pg h] at h1;have a:(4294967296:Int) ^ n<=4294967296 ^ (d.length - 1):=AW (by omega);omega
 .exact hl
theorem P2(a b:Nat)(hb:b < 2 ^ 32):a * 2 ^ 32 ||| b=a * 2 ^ 32+b:=by rw [Nat.mul_comm,VR hb]
theorem sQ{v n:Int}(hv: 0<=v/\v < 4294967296)(hn: 0<=n/\n < 4294967296):
  u64.wrap (((BitVec.ofInt 64 (u64.wrap (v * (2:Int) ^ 32)) ||| BitVec.ofInt 64 (u64.wrap n)).toNat:Nat):Int)=v * 4294967296+n:=by
 obtain⟨a,rfl⟩:=TG hv.1;obtain⟨b,rfl⟩:=TG hn.1;have h1:u64.wrap ((a:Int) * (2:Int) ^ 32)= ((a * 2 ^ 32:Nat):Int):=by rw [show((2:Int) ^ 32)=4294967296 from by decide,bN (by omega)];omega
 have e:u64.wrap (b:Int)= ((b:Nat):Int):=bN (by omega);have c:(a * 2 ^ 32) % 2 ^ 64=a * 2 ^ 32:=UF (by omega);have d:b % 2 ^ 64=b:=UF (by omega);rw [h1,e,UC,UC,BitVec.toNat_or,UN,UN,c,d,P2 a b (by omega),bN (by omega)];omega
open Go Go.Aev Go.Aev.Gen Go.IntKind
section
variable {U V P w0 v0 u2 v2 v1 Tt q qh rh:Int}
theorem M5(l: 0 < P)(m:U=w0+P * u2+4294967296 * (P * Tt))(d:V=v0+P * v2+4294967296 * (P * v1))(n: 0<=w0/\w0 < P)(b: 0<=v0)(g:u2 < 4294967296)(c: 0<=v2)(a: 0<=q)(f:q * V<=U):q * v1<=Tt:=by
 rcases Tl Tt (q * v1) with h | h
 .exfalso;have h1:P * (Tt+1)<=P * (q * v1):=R1 (by omega) (by omega);have i:P * u2<=P * 4294967295:=R1 (by omega) (by omega);have j: 0<=q * v0:=S3 a b;have k: 0<=P * (q * v2):=S3 (by omega) (S3 a c);have e:q * V=q * v0+P * (q * v2)+4294967296 * (P * (q * v1)):=by
   rw [d,Sk,Sk,SC q P,SC q 4294967296,SC q P]
  rw [Sk] at h1;omega
 .exact h
theorem M6(k: 0 < P)(l:U=w0+P * u2+4294967296 * (P * Tt))(d:V=v0+P * v2+4294967296 * (P * v1))(o: 0<=w0/\w0 < P)(b: 0<=v0)(a: 0<=qh)(c:qh * v1+rh=Tt)(n:q * V<=U)(m:qh * v2 > rh * 4294967296+u2)(f: 0 < V):q<=qh - 1:=by
 have h1:U < qh * V:=by
  have e:qh * V=qh * v0+P * (qh * v2)+4294967296 * (P * (qh * v1)):=by rw [d,Sk,Sk,SC qh P,SC qh 4294967296,SC qh P]
  have i:P * (rh * 4294967296+u2+1)<=P * (qh * v2):=R1 (by omega) (by omega);have j: 0<=qh * v0:=S3 a b;have g:P * Tt=P * (qh * v1)+P * rh:=by rw [<-c,Sk]
  have e3:P * (rh * 4294967296+u2+1)=4294967296 * (P * rh)+P * u2+P:=by rw [Sk,Sk,Vb,<-SQ P rh,Sd (P * rh)]
  omega
 rcases Tl (qh - 1) q with h | h
 .exfalso;have:qh * V<=q * V:=Sg (by omega) (by omega);omega
 .exact h
theorem FX(o: 0 < P)(p:U=w0+P * u2+4294967296 * (P * Tt))(g:V=v0+P * v2+4294967296 * (P * v1))(r: 0<=w0)(b: 0<=v0/\v0 < P)(d: 0<=v2)(c: 1<=v1)(a: 0<=qh/\qh<=4294967296)(f:qh * v1+rh=Tt)(h:qh * v2<=rh * 4294967296+u2):(qh - 1) * V<=U:=by
 have e:qh * V=qh * v0+P * (qh * v2)+4294967296 * (P * (qh * v1)):=by rw [g,Sk,Sk,SC qh P,SC qh 4294967296,SC qh P]
 have k:P * (qh * v2)<=P * (rh * 4294967296+u2):=R1 h (by omega);have e3:P * (rh * 4294967296+u2)=4294967296 * (P * rh)+P * u2:=by rw [Sk,<-SQ P rh,Sd (P * rh)]
 have i:P * Tt=P * (qh * v1)+P * rh:=by rw [<-f,Sk]
 have l:qh * v0<=4294967296 * v0:=Sg a.2 b.1;have m:P * 1<=P * v1:=R1 c (by omega);have n: 0<=P * v2:=S3 (by omega) d;have j:(qh - 1) * V=qh * V - V:=by rw [Wo,TD]
 omega
end
theorem Dg.append{a b:List Int}(c:Dg a)(hb:Dg b):Dg (a++b):=λu hu=>by
 rcases RX.1 hu with hu | hu
 .exact c u hu
 .exact hb u hu
theorem Dg.left{a b:List Int}(h:Dg (a++b)):Dg a:=λu c=>h u (RY _ c)
theorem Dg.right{a b:List Int}(h:Dg (a++b)):Dg b:=λu c=>h u (RW _ c)
def js(q:Int):List Int->List Int->Int->Int->List Int
 | x::us,a::vs,c,b=>((x - (c+q * a) % 4294967296 - b) % 4294967296)::js q us vs ((c+q * a) / 4294967296) (cm (x - (c+q * a) % 4294967296 - b))
 | us,_,_,_=>us
def fa(q:Int):List Int->List Int->Int->Int->Int×Int
 | x::us,a::vs,c,b=>fa q us vs ((c+q * a) / 4294967296) (cm (x - (c+q * a) % 4294967296 - b))
 | _,_,c,b=>(c,b)
theorem Df(v:Int): 0<=cm v/\cm v<=1:=by unfold cm;split <;> omega
theorem Gt{q:Int}(g: 0<=q/\q < 4294967296):∀{us vs:List Int} {c b:Int},us.length=vs.length->Dg us->Dg vs->0<=c/\c < 4294967296->0<=b/\b<=1->
  val (js q us vs c b)=val us - q * val vs - c - b+4294967296 ^ us.length * ((fa q us vs c b).1+ (fa q us vs c b).2)/\(js q us vs c b).length=us.length/\Dg (js q us vs c b)/\0<=(fa q us vs c b).1/\(fa q us vs c b).1 < 4294967296/\0<=(fa q us vs c b).2/\(fa q us vs c b).2<=1
 | [],[],c,b,_,_,_,e,hb=>by refine⟨by simp [js,fa,val];omega,rfl,(by intro a f;cases f),e.1,e.2,hb.1,hb.2⟩
 | [],a::vs,c,b,h,_,_,_,_=>by simp at h
 | x::us,[],c,b,h,_,_,_,_=>by simp at h
 | x::us,a::vs,c,b,h,i,hv,e,hb=>by
  have o:=i x RL;have f:=pa g (hv a RL);obtain⟨k,l,m,n⟩:=Gt g (us:=us) (vs:=vs) (c:=(c+q * a) / 4294967296) (b:=cm (x - (c+q * a) % 4294967296 - b)) (by simpa using h) i.tail hv.tail (by omega) (Df _);refine⟨?_,by simp [js,l], ?_,by rw [fa];exact n⟩
  .simp only [js,fa,val,Sc,Um];rw [k];have j:q * (a+4294967296 * val vs)=q * a+4294967296 * (q * val vs):=by rw [Sk,SC]
   rw [j,Sd ((4294967296:Int) ^ us.length) 4294967296,SQ];generalize (4294967296:Int) ^ us.length * _=K;unfold cm;split <;> omega
  .intro u d;simp only [js] at d;rcases RV.1 d with rfl | d
   .omega
   .exact m u d
def fj:List Int->List Int->Int->List Int
 | x::us,a::vs,c=>((c+ (x+a)) % 4294967296)::fj us vs ((c+ (x+a)) / 4294967296)
 | us,_,_=>us
def jf:List Int->List Int->Int->Int
 | x::us,a::vs,c=>jf us vs ((c+ (x+a)) / 4294967296)
 | _,_,c=>c
theorem CN:∀{us vs:List Int} {c:Int},us.length=vs.length->Dg us->Dg vs->0<=c/\c<=1->
  val (fj us vs c)+4294967296 ^ us.length * jf us vs c=val us+val vs+c/\(fj us vs c).length=us.length/\Dg (fj us vs c)/\0<=jf us vs c/\jf us vs c<=1
 | [],[],c,_,_,_,d=>by exact⟨by simp [fj,jf,val],rfl,(by intro a e;cases e),d.1,d.2⟩
 | [],a::vs,c,h,_,_,_=>by simp at h
 | x::us,[],c,h,_,_,_=>by simp at h
 | x::us,a::vs,c,h,f,hv,d=>by
  have l:=f x RL;have e:=hv a RL;obtain⟨g,i,j,k⟩:=CN (us:=us) (vs:=vs) (c:=(c+ (x+a)) / 4294967296) (by simpa using h) f.tail hv.tail (by omega);refine⟨?_,by simp [fj,i], ?_,by rw [jf];exact k⟩
  .simp only [fj,jf,val,Sc,Um];rw [Sd ((4294967296:Int) ^ us.length) 4294967296,SQ];generalize (4294967296:Int) ^ us.length * _=K at g⊢;omega
  .intro u b;simp only [fj] at b;rcases RV.1 b with rfl | b
   .omega
   .exact j u b
theorem Az{a k m:Int}(hm: 0 < m):(a * m) % (k * m)= (a % k) * m:=by rw [Sd a m,Sd k m,Int.mul_emod_mul_of_pos _ _ hm,Sd]
def fc(m:Int):List Int->Int->List Int
 | [],c=> [c]
 | a::x,c=>((a * m) % 4294967296+c)::fc m x (a * m / 4294967296)
theorem xw{m k:Int}(hm: 0 < m)(hk: 4294967296=k * m):∀{x:List Int} {c:Int},Dg x->0<=c/\c < m->val (fc m x c)=val x * m+c/\(fc m x c).length=x.length+1/\Dg (fc m x c)
 | [],c,_,n=>by
  have d: 0 < k:=by
   rcases Tl 0 k with h | h
   .exact h
   .have:=S3 (Wf h) (Tf hm);rw [Wp] at this;omega
  have e:m * 1<=m * k:=R1 (by omega) (by omega);rw [Sd m k,<-hk] at e;refine⟨by simp [fc,val],rfl,λa b=> ?_⟩;simp only [fc,RP] at b;subst b;omega
 | a::x,c,h,n=>by
  have b:=h a RL;have f: 0<=a * m:=S3 b.1 (by omega);have h1:a * m < 4294967296 * m:=U1 b.2 hm;have g:a * m / 4294967296 < m:=by rw [TQ (by decide),Sd m];exact h1
  have i: 0<=a * m / 4294967296:=T3 f (by decide);obtain⟨p,r,t⟩:=xw hm hk (x:=x) (c:=a * m / 4294967296) h.tail ⟨i,g⟩;refine⟨?_,by simp [fc,r], ?_⟩
  .simp only [fc,val];rw [p,UT,SQ 4294967296 (val x) m];omega
  .intro u hu;simp only [fc] at hu;rcases RV.1 hu with rfl | hu
   ·
    have o:(a * m) % 4294967296= (a % k) * m:=by
     conv=>lhs;rw [hk]
     rw [Az hm]
    have d: 0 < k:=by
     rcases Tl 0 k with h | h
     .exact h
     .have:=S3 (Wf h) (Tf hm);rw [Wp] at this;omega
    have w:=TB a d;have j:=Ut a (show k≠0 by omega);have l:(a % k+1) * m<=k * m:=Sg (by omega) (by omega);have y: 0<=(a % k) * m:=S3 j (by omega);rw [UT,TD,<-hk] at l;rw [o];omega
   .exact t u hu
def dS(m k:Int):List Int->List Int
 | []=> []
 | [a]=> [a / m]
 | a::b::r=>(a / m+ (b * k) % 4294967296)::dS m k (b::r)
theorem IC{m k:Int}(hm: 0 < m)(hk: 4294967296=k * m)(e: 0 < k):∀{x:List Int},Dg x->val (dS m k x)=val x / m/\(dS m k x).length=x.length/\Dg (dS m k x)
 | [],_=>by simp [dS,val,Dg]
 | [a],h=>by have c:=h a RL;have h1: 0<=a / m:=T3 c.1 (by omega);have w:a / m<=a:=Int.ediv_le_self _ c.1;refine⟨by simp [dS,val],rfl,λu hu=> ?_⟩;simp only [dS,RP] at hu;subst hu;omega
 | a::b::r,h=>by
  obtain⟨n,o,p⟩:=IC hm hk e (x:=b::r) h.tail;have c:=h a RL;have hb:=h b (by simp);have d:(b * k) % 4294967296= (b % m) * k:=by
   conv=>lhs;rw [hk,Sd k m]
   rw [Az e]
  refine⟨?_,by rw [dS,Sc,o];rfl, ?_⟩
  .have f:val (a::b::r) / m=a / m+k * val (b::r):=by
    rw [show val (a::b::r)=a+4294967296 * val (b::r) from rfl]
    conv=>lhs;rw [hk,Sd k m,SQ]
    rw [Int.add_mul_ediv_left _ _ (by omega)]
   have g:val (b::r) / m=b / m+k * val r:=by
    rw [show val (b::r)=b+4294967296 * val r from rfl]
    conv=>lhs;rw [hk,Sd k m,SQ]
    rw [Int.add_mul_ediv_left _ _ (by omega)]
   have e3:=TT b m;rw [f];simp only [dS,val];rw [n,g,d];have i: 4294967296 * (b / m+k * val r)=k * (m * (b / m))+4294967296 * (k * val r):=by
    rw [Sk]
    conv=>lhs;rw [hk,SQ]
    rw [<-hk]
   have e5:k * (b+4294967296 * val r)=k * (m * (b / m))+ (b % m) * k+4294967296 * (k * val r):=by
    rw [Sk,SC k 4294967296]
    conv=>lhs;rw [<-e3,Sk,Sd k (b % m)]
   rw [i,e5];omega
  .intro u hu;simp only [dS] at hu;rcases RV.1 hu with rfl | hu
   .rw [d];have y:=TB b hm;have j:=Ut b (show m≠0 by omega);have l:(b % m+1) * k<=m * k:=Sg (by omega) (by omega);have z: 0<=(b % m) * k:=S3 j (by omega);rw [UT,TD,Sd m k,<-hk] at l;have A: 0<=a / m:=T3 c.1 (by omega);have t:a / m < k:=by
     rw [TQ hm,<-hk];exact c.2
    omega
   .exact p u hu
open Go Go.Aev Go.Aev.Gen Go.IntKind
abbrev u6(n:Int):AV:=AV.t (T.int .u64 n)
abbrev U2(ec0 ec1:Bool)(u a:List Int):List ab:= [ab.sl false 1 ec0 (aK u),ab.sl false 1 ec1 (aK a)]
def Good(a:List T->Prop)(r:Option (List T)):Prop:= ∃R,r=some R/\a R
theorem Good.step{b:List T->Prop}{r a:Option (List T)}(h:Good b a)(k:∀R,a=some R->r=some R):Good b r:=by obtain⟨R,h1,c⟩:=h;exact⟨R,k R h1,c⟩
theorem KJ{d:List Int}{i:Nat}{a:Int}(h:d[i]? =some a):aV d i=a:=by simp [aV,RO,h]
theorem nx(i:Nat)(h:i<=100000):i64.wrap ((i:Int)+1)= ((i+1:Nat):Int):=next i h
theorem ad(i j:Nat)(h:i+j<=100000):i64.wrap ((i:Int)+ (j:Int))= ((i+j:Nat):Int):=by rw [Go.Aev.wr (by omega)];omega
theorem lQ(a:List Int)(b:Int)(r:List Int)(i:Nat)(h:a.length=i):(aK (a++b::r))[((i:Nat):Int).toNat]? =some [T.int .u32 b]:=by rw [cJ (by simp;omega),vf a b r i h]
theorem l0(a:List Int)(b v:Int)(r:List Int)(i:Nat)(h:a.length=i):bt (i:Int).toNat 0 [T.int .u32 v] (aK (a++b::r))=some (aK (a++v::r)):=by rw [zC (by simp;omega),po a b v r i h]
section
variable (s:Nat) (ev ec0 ec1:Bool) (v:List Int) (lo hi:List Int)
theorem BZ(k:Nat)(h:k<=100000):i64.wrap ((k:Int) - 1)= (k:Int) - 1:=Go.Aev.wr (by omega)
end
theorem qP(n:Nat):((2:Int) ^ n)= ((2 ^ n:Nat):Int):=by rw [Int.natCast_pow];rfl
theorem sP{y z:Int}{n t:Nat}(hn:n<=32)(hy: 0<=y/\y < (2:Int) ^ n)(hz:z= ((2 ^ n * t:Nat):Int))(hb:z < 4294967296)(b:z+y < 4294967296):
  u32.wrap (((BitVec.ofInt 32 y ||| BitVec.ofInt 32 z).toNat:Nat):Int)=z+y:=by
 obtain⟨a,rfl⟩:=TG hy.1;have e:a < 2 ^ n:=by have:=hy.2;rw [qP] at this;omega
 have g: 2 ^ n * t < 4294967296:=by rw [hz] at hb;omega
 have f:(2:Nat) ^ n<=2 ^ 32:=UD (by decide) hn;have c:a % 2 ^ 32=a:=UF (by omega);have d:(2 ^ n * t) % 2 ^ 32=2 ^ n * t:=UF (by omega);rw [hz,UC,UC,BitVec.toNat_or,UN,UN,c,d,Nat.or_comm,<-VR e,eC];have: 2 ^ n * t+a < 4294967296:=by rw [hz] at b;omega
 rw [<-Int.natCast_add];omega
theorem kW(n:Nat): 0 < (2:Int) ^ n:=Int.pow_pos (by decide)
theorem sX{n:Nat}(h:n<=32):(4294967296:Int)=2 ^ (32 - n) * 2 ^ n:=by rw [<-Vc,show 32 - n+n=32 from by omega];decide
theorem Gk{a m k:Int}(hm: 0 < m)(hk: 4294967296=k * m):(a * m) % 4294967296= (a % k) * m:=by
 conv=>lhs;rw [hk]
 rw [Az hm]
open Go Go.Aev Go.Aev.Gen Go.IntKind
def CI(X Y:Int)(L:Nat)(R:List T):Prop:= ∃a Q b Z,R= [T.ae 1 a (aK Q),T.ae 1 b (aK Z)]/\Dg Q/\Dg Z/\val Q=X / Y/\val Z=X % Y/\Q.length<=L/\Z.length<=L
theorem mu{b:Type}{l:List b}{n:Nat}(h:l.length=n+1):∃a x,l=a++ [x]/\a.length=n:=by
 rcases List.eq_nil_or_concat l with rfl | ⟨a,x,rfl⟩
 .simp at h
 .exact⟨a,x,by simp,by simpa using h⟩
def B7(s L:Nat)(V N0:Int)(n:Nat)(R:List T):Prop:= ∃b Q c Z a,R= [T.ae 1 b (aK Q),T.ae 1 c (aK Z)]/\Dg Q/\Dg Z/\Q.length=L/\Z.length=n/\0<=a/\a < V/\val Q * V+a=N0/\val Z=a / 2 ^ s
structure CG (s:Nat) (x y UU VV:List Int) (V2:List Int) (w2 w1:Int):Prop where
 hs:s < 32
 vv:VV=V2++ [w2] ++ [w1] ++ [0]
 dV:Dg (V2++ [w2,w1])
 h1: 1<=w1
 Rl:val (V2++ [w2,w1])=val y * 2 ^ s
 ly:y.length=V2.length+2
 ge: 4294967296 ^ (V2.length+1)<=val y
 dU:Dg UU
 Ju:val UU=val x * 2 ^ s
 lu:UU.length=x.length+1
theorem Nh{x y':List Int}{b a:Int}(S:Dg x)(hy:Dg (y'++ [b,a]))(h1: 1<=a)(s:Nat)(hs:s < 32)(w:a * 2 ^ s < 4294967296):
  ∃g Z Y,g.length=y'.length/\CG s x (y'++ [b,a]) (fc (2 ^ s) x 0) (fc (2 ^ s) (y'++ [b,a]) 0) g Z Y:=by
 have p:(y'++ [b,a]).length=y'.length+2:=by simp
 have m:=kW s;have hk:=sX (n:=s) (by omega);obtain⟨v1,M,t⟩:=xw m hk (x:=y'++ [b,a]) (c:=0) hy ⟨US _,m⟩;obtain⟨L,u2,X⟩:=xw m hk (x:=x) (c:=0) S ⟨US _,m⟩;generalize fc (2 ^ s) (y'++ [b,a]) 0=N at *
 generalize fc (2 ^ s) x 0=UU at *
 rw [T4] at v1 L;have y:=gL y' [b,a];have T:=jD hy.left;have hy2:=hy b (by simp);have hy1:=hy a (by simp);have hPp:=ix y'.length;obtain⟨B,r,rfl,o⟩:=mu (l:=N) (n:=y'.length+2) (by rw [M,p]);have dvt:=t r (by simp);have u:=gL B [r];rw [o] at u;simp only [val,T5,T4] at u y;have Q:=gy t.left;have D:val (y'++ [b,a]) * 2 ^ s < 4294967296 ^ (y'.length+2):=by
  have F:val (y'++ [b,a])<=4294967296 ^ (y'.length+1) * (a+1) - 1:=by
   have I:=jD (d:=y'++ [b]) (by
    have:y'++ [b,a]= (y'++ [b])++ [a]:=by simp
    rw [this] at hy;exact hy.left)
   have e:=gL (y'++ [b]) [a];rw [show(y'++ [b])++ [a]=y'++ [b,a] from by simp] at e;simp only [val,T5,T4,SI,Sc,Sx,Sn] at e I;rw [Sk,Vb];omega
  have z:(a+1) * (2:Int) ^ s<=4294967296:=by rw [hk] at w⊢;have:a < 2 ^ (32 - s):=VX w (by omega);exact Sg (by omega) (by omega)
  have hpp:=ix (y'.length+1);have W:val (y'++ [b,a]) * (2:Int) ^ s<=(4294967296 ^ (y'.length+1) * (a+1) - 1) * 2 ^ s:=Sg F (by omega);have m2:(4294967296:Int) ^ (y'.length+1) * ((a+1) * 2 ^ s)<=4294967296 ^ (y'.length+1) * 4294967296:=R1 z (by omega);rw [Wo,TD,SQ] at W;rw [show y'.length+2=y'.length+1+1 from rfl,Um 4294967296 (y'.length+1)];omega
 have J:r=0:=by
  rcases Tl 0 r with h | h
  .exfalso;have:(4294967296:Int) ^ (y'.length+2) * 1<=4294967296 ^ (y'.length+2) * r:=R1 (by omega) (Tf (ix _));omega
  .omega
 subst J;have j:val B=val (y'++ [b,a]) * 2 ^ s:=by omega
 obtain⟨V1,i,rfl,C⟩:=mu o;obtain⟨g,f,rfl,k⟩:=mu C;have H:g++ [f] ++ [i]=g++ [f,i]:=by simp
 rw [H] at j t o;have dV:=t.left;have A: 4294967296 ^ (y'.length+1)<=val (y'++ [b,a]):=by rw [y,Um];have:(4294967296:Int) ^ y'.length * (4294967296 * 1)<=4294967296 ^ y'.length * (b+4294967296 * a):=R1 (by omega) (by omega);have:=gy hy.left;omega
 have G: 1<=(2:Int) ^ s:=by omega
 have R: 4294967296 ^ (y'.length+1)<=val (g++ [f,i]):=by rw [j];have:val (y'++ [b,a]) * 1<=val (y'++ [b,a]) * 2 ^ s:=R1 G (by have:=ix (y'.length+1);omega);omega
 have K: 1<=i:=by
  have dw1:=dV i (by simp);rcases Tl i 1 with h | h
  .exfalso;have O:i=0:=by omega
   subst O;have e:=gL (g++ [f]) [(0:Int)];have E:=jD (d:=g++ [f]) (by
    have:g++ [f,(0:Int)]= (g++ [f])++ [0]:=by simp
    rw [this] at dV;exact dV.left)
   rw [show g++ [f] ++ [(0:Int)]=g++ [f,0] from by simp] at e;simp only [val,T5,T4,SI,Sc,Sx,k,Sn] at e E;omega
  .exact h
 exact⟨g,f,i,k,hs,rfl,dV,K,j,by rw [p,k],by rw [k];exact A,X,L,u2⟩
open Go Go.Aev Go.Aev.Gen Go.IntKind
open Go Go.Aev Go.Aev.Gen Go.IntKind
def jF(z:Int):Prop:=(z.natAbs:Int) < 4294967296 ^ 200
theorem jF.len{z:Int}{s:Bool}{d:List Int}(h:jF z)(r:kC z s d):d.length<=200:=Ph r 200 h
theorem jF.le{z w:Int}(h:jF z)(a:w.natAbs<=z.natAbs):jF w:=by
 unfold jF at *
 have:(w.natAbs:Int)<=(z.natAbs:Int):=by omega
 exact Int.lt_of_le_of_lt this h
def Sm(z:Int):Prop:= -9223372036854775808 < z/\z < 9223372036854775808
theorem Sm.eH{z:Int}(h:Sm z):jF z:=by
 unfold Sm at h;unfold jF;have h1:(4294967296:Int) ^ 2<=4294967296 ^ 200:=AW (by omega);have a:(4294967296:Int) ^ 2=18446744073709551616:=by decide
 rw [a] at h1;exact Int.lt_of_lt_of_le (by omega) h1
def JD(z:Int)(r:Option (List T)):Prop:= ∃s e d,r=some [T.aS,tb s,T.ae 1 e (aK d)]/\kC z s d
theorem CL.g{z:Int}{n:Nat}{r:Option (List T)}(h:CL z n r):JD z r:=by obtain⟨s,e,d,a,k2,_⟩:=h;exact⟨s,e,d,a,k2⟩
abbrev r1:AV:=AV.ref (Id.c 1) 0
abbrev pt(s e:Bool)(d:List Int):T:=T.ptr [T.bool s,T.ae 1 e (aK d)]
theorem wi{z:Int}{s e:Bool}{d:List Int}(h:kC z s d):WI z (pt s e d):=⟨s,e,d,rfl,h⟩
def WR(q:Rat)(x:T):Prop:= ∃s e d s' b a,x=T.ptr [tb s,T.ae 1 e (aK d),tb s',T.ae 1 b (aK a)]/\kC q.num s d/\kC (q.den:Int) s' a
def LQ(q:Rat):Prop:=jF q.num/\jF (q.den:Int)
abbrev b4(s:Bool)(y:T)(t:Bool)(u:T):ab:=ab.box [AV.t (T.bool s),AV.t y,AV.t (T.bool t),AV.t u]
theorem DU{u v:Int}(hv:v≠0):(v < 0->(Rat.divInt u v).num= -(u.tdiv (Int.gcd u v:Nat))/\((Rat.divInt u v).den:Int)= -(v.tdiv (Int.gcd u v:Nat)))/\
  (¬v < 0->(Rat.divInt u v).num=u.tdiv (Int.gcd u v:Nat)/\((Rat.divInt u v).den:Int)=v.tdiv (Int.gcd u v:Nat)):=by
 have hn:=Rat.num_divInt u v;have a:=Rat.den_divInt u v;rw [if_neg hv] at a;rw [Int.gcd_comm v u] at hn a;have b:((Int.gcd u v:Nat):Int) ∣ u:=Int.gcd_dvd_left u v;have c:((Int.gcd u v:Nat):Int) ∣ v:=Int.gcd_dvd_right u v;have d:u.tdiv (Int.gcd u v:Nat)=u / (Int.gcd u v:Nat):=Tr b;have e:v.tdiv (Int.gcd u v:Nat)=v / (Int.gcd u v:Nat):=Tr c;rw [d,e];constructor
 .intro h;have hs:v.sign= -1:=S5 h;rw [hs] at hn;constructor
  .rw [hn,show -1 * u= -u from by omega,Vf b]
  .rw [a,Int.natCast_ediv,Int.ofNat_natAbs_of_nonpos (by omega),Vf c]
 .intro h;have hs:v.sign=1:=S6 (by omega);rw [hs,TD] at hn;constructor
  .exact hn
  .rw [a,Int.natCast_ediv,Int.natAbs_of_nonneg (by omega)]
open Go Go.Aev Go.Aev.Gen Go.IntKind
theorem wr{q:Rat}{s e s' b:Bool}{d a:List Int}(h1:kC q.num s d)(c:kC (q.den:Int) s' a):WR q (T.ptr [tb s,T.ae 1 e (aK d),tb s',T.ae 1 b (aK a)]):=⟨s,e,d,s',b,a,rfl,h1,c⟩
theorem tc(q:Rat):(-q).num= -q.num:=rfl
theorem A9(q:Rat):(-q).den=q.den:=rfl
theorem Gy(p q:Rat):Rat.divInt (p.num * q.num) ((p.den:Int) * (q.den:Int))=p * q:=by
 conv=>rhs;rw [<-Un p,<-Un q]
 rw [Rat.divInt_mul_divInt]
theorem CO(p q:Rat):Rat.divInt (p.num * (q.den:Int)+q.num * (p.den:Int)) ((p.den:Int) * (q.den:Int))=p+q:=by
 conv=>rhs;rw [<-Un p,<-Un q]
 rw [Rat.divInt_add_divInt _ _ (by have:=p.den_pos;omega) (by have:=q.den_pos;omega)]
theorem vp(p q:Rat):(p.den:Int) * (q.den:Int)≠0:=by have h1:=p.den_pos;have a:=q.den_pos;exact Wj (by omega) (by omega)
theorem LQ.neg{q:Rat}(h:LQ q):LQ (-q):=⟨h.1.le (by rw [tc];omega),h.2⟩
open Go Go.Aev Go.Aev.Gen Go.IntKind
theorem zi{u v:Int}(hv:v≠0):(Rat.divInt u v).num.natAbs<=u.natAbs/\(Rat.divInt u v).den<=v.natAbs:=by
 obtain⟨h1,c⟩:=DU (u:=u) hv;have d:(u.tdiv (Int.gcd u v:Nat)).natAbs<=u.natAbs:=by rw [Int.natAbs_tdiv];exact Nat.div_le_self _ _
 have e:(v.tdiv (Int.gcd u v:Nat)).natAbs<=v.natAbs:=by rw [Int.natAbs_tdiv];exact Nat.div_le_self _ _
 by_cases h:v < 0
 .obtain⟨a,b⟩:=h1 h;constructor <;> omega
 .obtain⟨a,b⟩:=c h;constructor <;> omega
def QB(m:Nat)(q:Rat):Prop:=q.num.natAbs<=2 ^ m/\q.den<=2 ^ m
theorem OZ(k:Nat):(4294967296:Int) ^ k= ((2 ^ (32 * k):Nat):Int):=by rw [Nat.pow_mul,Int.natCast_pow];rfl
theorem Nn{m k:Nat}{z:Int}(hm:m < 32 * k)(h:z.natAbs<=2 ^ m):(z.natAbs:Int) < 4294967296 ^ k:=by rw [OZ k];exact Int.ofNat_lt.2 (Nat.lt_of_le_of_lt h (Nat.pow_lt_pow_right (by omega) hm))
theorem Aq{m:Nat}{z:Int}(hm:m<=6300)(h:z.natAbs<=2 ^ m):jF z:=Nn (by omega) h
theorem QB.lq{m:Nat}{q:Rat}(h:QB m q)(hm:m<=6300):LQ q:=⟨Aq hm h.1,Aq hm (by simpa using h.2)⟩
theorem QB.mono{m k:Nat}{q:Rat}(h:QB m q)(hm:m<=k):QB k q:=
 ⟨Sh h.1 (UD (by omega) hm),Sh h.2 (UD (by omega) hm)⟩
theorem hH{a b m k:Nat}(c:a<=2 ^ m)(hb:b<=2 ^ k):a * b<=2 ^ (m+k):=by rw [Nat.pow_add];exact Vn c hb
theorem QB.mul{m k:Nat}{p q:Rat}(a:QB m p)(b:QB k q):QB (m+k) (p * q):=by
 rw [<-Gy];obtain⟨h1,c⟩:=zi (u:=p.num * q.num) (vp p q);refine⟨Sh h1 ?_,Sh c ?_⟩
 .rw [Ss];exact hH a.1 b.1
 .rw [Ss,Sb,Sb];exact hH a.2 b.2
theorem yE{m k:Nat}{p q:Rat}(a:QB m p)(b:QB k q):(p.num * (q.den:Int)+q.num * (p.den:Int)).natAbs<=2 ^ (m+k+1):=by
 have h1:(p.num * (q.den:Int)).natAbs<=2 ^ (m+k):=by rw [Ss,Sb];exact hH a.1 b.2
 have c:(q.num * (p.den:Int)).natAbs<=2 ^ (m+k):=by rw [Ss,Sb,VF m k];exact hH b.1 a.2
 have d:=Int.natAbs_add_le (p.num * (q.den:Int)) (q.num * (p.den:Int));rw [Nat.pow_succ];omega
theorem QB.add{m k:Nat}{p q:Rat}(a:QB m p)(b:QB k q):QB (m+k+1) (p+q):=by rw [<-CO];obtain⟨h1,c⟩:=zi (u:=p.num * (q.den:Int)+q.num * (p.den:Int)) (vp p q);refine⟨Sh h1 (yE a b),Sh c ?_⟩;rw [Ss,Sb,Sb];exact Sh (hH a.2 b.2) (UD (by omega) (by omega))
theorem QB.neg{m:Nat}{q:Rat}(h:QB m q):QB m (-q):=⟨by rw [tc,VM];exact h.1,h.2⟩
theorem QB.sub{m k:Nat}{p q:Rat}(a:QB m p)(b:QB k q):QB (m+k+1) (p - q):=by rw [Rat.sub_eq_add_neg];exact a.add b.neg
theorem QB.divInt{m:Nat}{u v:Int}(hv:v≠0)(h1:u.natAbs<=2 ^ m)(c:v.natAbs<=2 ^ m):QB m (Rat.divInt u v):=by obtain⟨a,b⟩:=zi (u:=u) hv;exact⟨Sh a h1,Sh b c⟩
theorem tA{m k:Nat}{p q:Rat}(a:QB m p)(b:QB k q):(p.num * (q.den:Int) - q.num * (p.den:Int)).natAbs<=2 ^ (m+k+1):=by have:=yE a b.neg;rw [tc,A9,Wp,<-Int.sub_eq_add_neg] at this;exact this
abbrev Fr:=Int×Int
def eZ(l:List Fr):List (List T):=l.map λx=> [ti x.1,ti x.2]
abbrev LN(e:Bool)(l:List Fr):AV:=AV.t (T.ae 2 e (eZ l))
theorem vL(l:List Fr):(eZ l).length=l.length:=by simp [eZ]
theorem EP{l:List Fr}{i:Nat}{r:Fr}(h:l[i]? =some r):(eZ l)[((i:Nat):Int).toNat]? =some [ti r.1,ti r.2]:=by simp [eZ,h]
def eU(x:Fr):Prop:=1<=x.2/\x.2<=1073741824/\ -1073741824<=x.1/\x.1<=1073741824/\Int.gcd x.1 x.2=1
instance (x:Fr):Decidable (eU x):=by unfold eU;infer_instance
def dI(x:Fr):Rat:=Rat.divInt x.1 x.2
theorem MM{x:Fr}(h1: 1<=x.2/\x.2<=1073741824)(a: -1073741824<=x.1/\x.1<=1073741824):QB 30 (dI x):=QB.divInt (by omega) (by omega) (by omega)
def tB:List Int->List Fr->Rat->Rat
 | [],_,a=>a
 | c::of,x::xs,a=>tB of xs (a+dI x * Rat.divInt c 1)
 | _::_,[],a=>a
def oC(x:Fr):Prop:=(1<=x.2/\x.2<=1073741824)/\ -1073741824<=x.1/\x.1<=1073741824
theorem eU.b{x:Fr}(h:eU x):oC x:=⟨⟨h.1,h.2.1⟩,h.2.2.1,h.2.2.2.1⟩
end Go.Aev.Wd
