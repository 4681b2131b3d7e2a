import Derived.Test.YtcffabneepdohaaGreatDoorBlastBackQ16
import Derived.Test.YtcffabneepdohaaGreatDoorBlastBackQ15
set_option linter.all false
namespace Go.Aev.Gen
open Go Go.Aev Go.IntKind
theorem yJ{l:List Me}{i:Nat}{m:Me}(h:l[i]? =some m):(eU l)[i]? =some [mT m,ti m.re.n,ti m.re.d,cT m.re,ti m.re.r]:=by simp [eU,h]
def zC(a n:Int)(k:Nat):Int:=i64.wrap ((BitVec.ofInt 64 a ||| BitVec.ofInt 64 (i64.wrap (n * 2 ^ min k 64))).toNat:Int)
theorem SY{k:Nat}(a:k<=8):(2:Int) ^ k<=256/\(0:Int) < 2 ^ k:=by rcases(by omega:k=0\/k=1\/k=2\/k=3\/k=4\/k=5\/k=6\/k=7\/k=8) with rfl | rfl | rfl | rfl | rfl | rfl | rfl | rfl | rfl <;> decide
theorem Jq{a n:Int}{k:Nat}(c: 0<=a/\a < 2 ^ k)(i:n=0\/n=1)(h:k<=8):zC a n k=a+n * 2 ^ k:=by
 have l:=SY h;have hm:min k 64=k:=by omega
 obtain⟨x,rfl⟩:=Zm c.1;have d:x < 2 ^ k:=by have:=c.2;exact_mod_cast this
 have b:x < 2 ^ 64:=X5 d (Y2 (by decide) (by omega));have j:(x:Int) < 256:=by omega
 unfold zC;rw [hm];rcases i with rfl | rfl
 .rw [Int.zero_mul,wr (v:=0) (by omega)];have:BitVec.ofInt 64 (x:Int) ||| BitVec.ofInt 64 0=BitVec.ofNat 64 x:=by
   rw [show BitVec.ofInt 64 0=0#64 from rfl,BitVec.or_zero,Z0]
  rw [this,ZI,Zk b,wr (by omega)];omega
 .rw [Int.one_mul,wr (v:=2 ^ k) (by omega)];have e: 2 ^ k < 2 ^ 64:=Nat.pow_lt_pow_right (by decide) (by omega);have f:BitVec.ofInt 64 ((2:Int) ^ k)=BitVec.ofNat 64 (2 ^ k):=by
   rw [show((2:Int) ^ k)= ((2 ^ k:Nat):Int) by simp,Z0]
  rw [f,Z0,BitVec.toNat_or,ZI,ZI,Zk b,Zk e];have g:x ||| 2 ^ k=x+2 ^ k:=by have:=Nat.two_pow_add_eq_or_of_lt d 1;rw [Nat.mul_one] at this;rw [Nat.or_comm,<-this];omega
  rw [g];have e3:(((x+2 ^ k:Nat)):Int)= (x:Int)+2 ^ k:=by simp
  rw [e3,wr (by omega)]
theorem EX{a n:Int}{k:Nat}(c: 0<=a/\a < 2 ^ k)(b:n=0\/n=1): 0<=a+n * 2 ^ k/\a+n * 2 ^ k < 2 ^ (k+1):=by
 have:(2:Int) ^ (k+1)=2 ^ k * 2:=by rw [Int.pow_succ]
 rcases b with rfl | rfl <;> omega
def mw:Nat->List Int->Int
 | _,[]=>0
 | k,n::r=>n * 2 ^ k+mw (k+1) r
def po:List En->Int->List Int->Int
 | [],d,_=>d
 | e::r,d,x=>if e.ar=x then e.to.n else po r d x
def je(m:Me)(x:List Int):Int:=po m.rs m.re.n x
structure u7 (m:Me):Prop where
 re:m.re.n=0\/m.re.n=1
 to:∀e∈m.rs,e.to.n=0\/e.to.n=1
 ok:oz m
 ea:∀e∈m.rs,e.ea=true->e.ar= []
theorem K8{d:Int}{x:List Int}(a:d=0\/d=1):∀{l:List En},(∀e∈l,e.to.n=0\/e.to.n=1)->po l d x=0\/po l d x=1
 | [],_=>a
 | e::r,h=>by
  rw [po];split
  .exact h e W7
  .exact K8 a λy b=>h y (W8 _ b)
theorem Vm{m:Me}(h:u7 m)(x:List Int):je m x=0\/je m x=1:=K8 h.re h.to
theorem RY{m:Me}{ex:Bool}{x:List Int}(ok:oz m):∀(r:List En) (i:Nat),m.rs.drop i=r->
  Or xJ [aa ex x,r0,AV.t (T.aa 5 m.er (aO m.rs)),I (m.rs.length:Int),I (i:Int)] [IJ m]=some [ti (po r m.re.n x)]:=by
 have:=ok.rl;intro r;induction r with
 | nil=>
  intro i g;have c:¬(i:Int) < (m.rs.length:Int):=by have:=bu g;omega
  refine ai ?_;rw [BC];simp only [ao,↓reduceIte,c,po]
 | cons e r j=>
  intro i g;obtain⟨g1,l,f⟩:=bt g;have c:(i:Int) < (m.rs.length:Int):=by omega
  have h0: 0<=(i:Int):=by omega
  have k:=z6 (e:=e.ea) (e':=ex) (a:=e.ar) (b:=x) (ok.al e (Xg g1));have h:=j (i+1) f;rw [po];by_cases d:e.ar=x
  .rw [decide_eq_true d] at k;rw [if_pos d];refine ai ?_;rw [BC];simp only [aI,aL,aU,bA,aP,bO,c,h0,and_self,dA,iv g1,cY,k,aS,eC,↓reduceIte]
  .rw [decide_eq_false d] at k;rw [if_neg d];refine ai ?_;rw [BC];simp only [aI,aL,aU,bA,aP,bO,c,h0,and_self,dA,iv g1,cY,k,aV,eC,↓reduceIte,next i (by omega)];exact h
theorem Ub{m:Me}{ex:Bool}{x:List Int}(ok:oz m):Or (.call 65) [MG m,aa ex x] []=some [ti (je m x)]:=by have a:=RY (ex:=ex) (x:=x) ok m.rs 0 rfl;refine ai ?_;rw [OJ];simp only [dA];exact a
def nu(q:Bool)(v:Int):Va:=⟨q,v,1,true,[],0⟩
def fQ(q:Bool)(val:List Int->Int):List En->List En->List En
 | acc,[]=>acc
 | acc,e::r=>if(acc.any λx=>decide (x.ar=e.ar))=true then fQ q val acc r else fQ q val (acc++ [⟨e.ea,e.ar,nu q (val e.ar)⟩]) r
def gQ(q:Bool)(val:List Int->Int):List En->List Me->List En
 | acc,[]=>acc
 | acc,m::r=>gQ q val (fQ q val acc m.rs) r
def gp(a:List Me)(x:List Int):Int:=mw 0 (a.map λm=>je m x)
def oP(a:List Me):Int:=mw 0 (a.map λm=>m.re.n)
def l9(q:Bool)(a:List Me):List En:=gQ q (gp a) [] a
def iy(q:Bool)(a:List Me):Me:=⟨q && (l9 q a).isEmpty,(l9 q a).isEmpty,l9 q a,nu q (oP a)⟩
theorem zb(q:Bool)(val:List Int->Int):∀(r acc:List En),(fQ q val acc r).length<=acc.length+r.length/\acc.length<=(fQ q val acc r).length
 | [],acc=>by simp [fQ]
 | e::r,acc=>by
  rw [fQ];split
  .have:=zb q val r acc;rw [Xj];omega
  .have:=zb q val r (acc++ [⟨e.ea,e.ar,nu q (val e.ar)⟩]);rw [XK,Xh] at this;rw [Xj];omega
theorem H3(q:Bool)(val:List Int->Int):∀(r:List Me) (acc:List En),(∀m∈r,m.rs.length<=1000)->(gQ q val acc r).length<=acc.length+1000 * r.length
 | [],acc,_=>by simp [gQ]
 | m::r,acc,h=>by have b:=H3 q val r (fQ q val acc m.rs) λx a=>h x (W8 _ a);have c:=zb q val m.rs acc;have d:=h m W7;rw [gQ,Xj];omega
theorem za(q:Bool)(val:List Int->Int){P:List Int->Prop}:∀(r acc:List En),(∀e∈acc,P e.ar)->(∀e∈r,P e.ar)->∀e∈fQ q val acc r,P e.ar
 | [],acc,h,_=>h
 | e::r,acc,h,b=>by
  rw [fQ];split
  .exact za q val r acc h λy a=>b y (W8 _ a)
  .refine za q val r _ (λy a=> ?_) λy a=>b y (W8 _ a);rcases Xo.1 a with a | a
   .exact h y a
   .simp only [Xi] at a;subst a;exact b e W7
theorem H0(q:Bool)(val:List Int->Int){P:List Int->Prop}:∀(r:List Me) (acc:List En),(∀e∈acc,P e.ar)->(∀m∈r,∀e∈m.rs,P e.ar)->∀e∈gQ q val acc r,P e.ar
 | [],acc,h,_=>h
 | m::r,acc,h,a=>by rw [gQ];exact H0 q val r _ (za q val m.rs acc h (a m W7)) λx b=>a x (W8 _ b)
abbrev z5:ad:=ad.box [AV.t (T.aC true),I 0,I 0,AV.t (T.aC true),I 0]
abbrev oY(k:Nat):ad:=ad.box [ow k,I 0,I 0,AV.t (T.aC true),I 0]
abbrev eB(e:En):ad:=ad.box [AV.t (T.aa 1 e.ea (enc e.ar)),I e.to.n,I e.to.d,AV.t (T.aa 2 e.to.ec (bW e.to.cs)),I e.to.r]
abbrev bT(e:Bool)(a:List Me):AV:=AV.t (T.aa 5 e (eU a))
def kY:List En->List ad
 | []=> [z5,z5]
 | a::t=> [z5,oY 2,ad.sl false 5 false (aO (a::t))]
def vA(e:En):List En->List ad
 | []=> [z5,z5,eB e]
 | a::t=> [z5,oY 3,eB e,ad.sl false 5 false (aO (a::t))]
structure vd (bs:List Me):Prop where
 bl:bs.length<=8
 ok:∀m∈bs,u7 m
theorem RC{eb:Bool}{b:List Me}{m:Me}{e:En}{rest:Int}{i j:Nat}{acc:List En}{R:List T}(s:vd b)(u:e.ea=true->e.ar= [])(H:e.ar.length<=1000)(K:j<=1000)(F:acc.length<=100000)
  (B:Or nr [bT eb b,r0,r1,I rest,bT eb b,I (b.length:Int),I (i:Int),AV.t (T.aa 5 m.er (aO m.rs)),I (m.rs.length:Int),I ((j+1:Nat):Int)] (kY (acc++ [⟨e.ea,e.ar,nu false (gp b e.ar)⟩]))=some R):∀(r:List Me) (k:Nat) (w:Int),b.drop k=r->k<=b.length->0<=w/\w < 2 ^ k->w+mw k (r.map λx=>je x e.ar)=gp b e.ar->
  Or ry [bT eb b,r0,r1,I rest,rf 2,I w,bT eb b,I (b.length:Int),I (i:Int),AV.t (T.aa 5 m.er (aO m.rs)),I (m.rs.length:Int),I (j:Int),bT eb b,I (b.length:Int),I (k:Int)] (vA e acc)=some R:=by
 have G:=s.bl;intro r;induction r with
 | nil=>
  intro k w g D p hs;have c:¬(k:Int) < (b.length:Int):=by have:=bu g;omega
  obtain⟨y,n,A⟩:=na e.ea e.ar u (by omega);have h:Or (.call 23) [I w] []=some [ti w,ti 1,T.aC true,ti 0]:=by refine ai ?_;rw [FN]
  rw [XY,mw,Int.add_zero] at hs;have hl:∀l:List En,aO l++ [[T.aa 1 e.ea (enc e.ar),ti w,ti 1,T.aa 2 true [],ti 0]]=aO (l++ [⟨e.ea,e.ar,nu false (gp b e.ar)⟩]):=λl=>by rw [<-G0,hs];rfl
  have v: [[T.aa 1 e.ea (enc e.ar),ti w,ti 1,T.aa 2 true [],ti 0]]=aO [⟨e.ea,e.ar,nu false (gp b e.ar)⟩]:=by rw [hs];rfl
  refine ai ?_;cases acc with
  | nil=>rw [show vA e []= [z5,z5,eB e] from rfl,Ge];simp only [ao,↓reduceIte,c,n,A,h,next j (by omega),v];exact B
  | cons a t=>rw [show vA e (a::t)= [z5,oY 3,eB e,ad.sl false 5 false (aO (a::t))] from rfl,Gf];simp only [ao,↓reduceIte,c,n,A,h,next j (by omega),dA,dc (show(a::t).length+1<=1000000 by omega)];rw [hl];exact B
 | cons x r E=>
  intro k w g D p hs;obtain⟨g1,J,C⟩:=bt g;have hm:=s.ok x (Xg g1);have c:(k:Int) < (b.length:Int):=by omega
  have h0: 0<=(k:Int):=by omega
  have q:¬(k:Int) < 0:=by omega
  have o:=Ub (ex:=e.ea) (x:=e.ar) hm.ok;have d:=Vm hm e.ar;have f:=Jq p d (show k<=8 by omega);have z:=E (k+1) (w+je x e.ar * 2 ^ k) C (by omega) (EX p d) (by rw [Xq,mw] at hs;rw [<-hs];omega);unfold zC at f;refine ai ?_;cases acc with
  | nil=>rw [show vA e []= [z5,z5,eB e] from rfl,Ge];simp only [ao,↓reduceIte,c,h0,q,and_self,iY,yJ g1,oT,cY,o,Xv,f,next k (by omega)];exact z
  | cons a t=>rw [show vA e (a::t)= [z5,oY 3,eB e,ad.sl false 5 false (aO (a::t))] from rfl,Gf];simp only [ao,↓reduceIte,c,h0,q,and_self,iY,yJ g1,oT,cY,o,Xv,f,next k (by omega)];exact z
theorem RA{eb:Bool}{f:List Me}{m:Me}{rest:Int}{i:Nat}{R:List T}(A:vd f)(hm:u7 m)(C:i<=8):∀(r:List En) (j:Nat) (acc:List En),m.rs.drop j=r->acc.length+r.length<=100000->(∀x∈acc,x.ar.length<=1000)->
  Or rz [bT eb f,r0,r1,I rest,bT eb f,I (f.length:Int),I ((i+1:Nat):Int)] (kY (fQ false (gp f) acc r))=some R->
  Or nr [bT eb f,r0,r1,I rest,bT eb f,I (f.length:Int),I (i:Int),AV.t (T.aa 5 m.er (aO m.rs)),I (m.rs.length:Int),I (j:Int)] (kY acc)=some R:=by
 have:=hm.ok.rl;intro r;induction r with
 | nil=>
  intro j acc g q b l;have o:¬(j:Int) < (m.rs.length:Int):=by have:=bu g;omega
  rw [fQ] at l;refine ai ?_;cases acc with
  | nil=>rw [show kY []= [z5,z5] from rfl,Gi];simp only [ao,↓reduceIte,o,next i (by omega)];exact l
  | cons a t=>rw [show kY (a::t)= [z5,oY 2,ad.sl false 5 false (aO (a::t))] from rfl,Bv];simp only [ao,↓reduceIte,o,next i (by omega)];exact l
 | cons e r z=>
  intro j acc g q b l;obtain⟨g1,B,v⟩:=bt g;have s:=Xg g1;have o:(j:Int) < (m.rs.length:Int):=by omega
  have h0: 0<=(j:Int):=by omega
  rw [Xj] at q;rw [fQ] at l;by_cases p:(acc.any λx=>decide (x.ar=e.ar))=true
  .rw [if_pos p] at l;have u:=z (j+1) acc v (by omega) b l;refine ai ?_;cases acc with
   | nil=>cases p
   | cons a t=>have c:=Dt (er:=false) (rs:=a::t) (y:=e) (by omega) (λx k=>Kx (b x k));rw [p] at c;rw [show kY (a::t)= [z5,oY 2,ad.sl false 5 false (aO (a::t))] from rfl,Bv];simp only [aI,aL,aU,bA,aP,bO,aS,eC,↓reduceIte,o,h0,and_self,dA,iv g1,cY,c,next j (by omega)];exact u
  .rw [if_neg p] at l;rw [YK] at p;have u:=z (j+1) (acc++ [⟨e.ea,e.ar,nu false (gp f e.ar)⟩]) v (by rw [XK,Xh];omega) (λx k=>by
    rcases Xo.1 k with k | k
    .exact b x k
    .simp only [Xi] at k;subst k;exact hm.ok.al e s) l
   have w:=RC (eb:=eb) (m:=m) (rest:=rest) (i:=i) (j:=j) A (hm.ea e s) (hm.ok.al e s) (by omega) (by omega) u f 0 0 rfl (XZ _) (by decide) (by rw [Int.zero_add];rfl);refine ai ?_;cases acc with
   | nil=>have c:Or (.call 53) [AV.t (T.aa 5 true []),AV.fn 64 [] [AV.t (T.ptr [T.aa 1 e.ea (enc e.ar),ti e.to.n,ti e.to.d,T.aa 2 e.to.ec (bW e.to.cs),ti e.to.r])]] []=some [tb false]:=Dt (er:=true) (rs:= []) (y:=e) (by simp) (λx h=>by cases h);rw [show kY []= [z5,z5] from rfl,Gi];simp only [aI,aL,aU,bA,aP,bO,aV,eC,↓reduceIte,o,h0,and_self,dA,iY,iv g1,cY,c];exact w
   | cons a t=>have c:=Dt (er:=false) (rs:=a::t) (y:=e) (by omega) (λx k=>Kx (b x k));rw [p] at c;rw [show kY (a::t)= [z5,oY 2,ad.sl false 5 false (aO (a::t))] from rfl,Bv];simp only [aI,aL,aU,bA,aP,bO,aV,eC,↓reduceIte,o,h0,and_self,dA,iY,iv g1,cY,c];exact w
theorem Rz{eb:Bool}{b:List Me}(j:vd b):∀(r:List Me) (i:Nat) (rest:Int) (acc:List En),b.drop i=r->i<=b.length->0<=rest/\rest < 2 ^ i->acc.length+1000 * r.length<=100000->(∀x∈acc,x.ar.length<=1000)->
  ∃x,Or rz [bT eb b,r0,r1,I rest,bT eb b,I (b.length:Int),I (i:Int)] (kY acc)=some [x,ti (rest+mw i (r.map λm=>m.re.n)),ti 1,T.aa 2 true [],ti 0]/\x.aQ 5=some ((gQ false (gp b) acc r).isEmpty,aO (gQ false (gp b) acc r)):=by
 have y:=j.bl;intro r;induction r with
 | nil=>
  intro i rest acc g v k f c;have d:¬(i:Int) < (b.length:Int):=by have:=bu g;omega
  have h:Or (.call 23) [I rest] []=some [ti rest,ti 1,T.aC true,ti 0]:=by refine ai ?_;rw [FN]
  rw [XY,mw,Int.add_zero,gQ];cases acc with
  | nil=>refine⟨T.aC true,ai ?_,rfl⟩;rw [show kY []= [z5,z5] from rfl,Gg];simp only [ao,↓reduceIte,d,h]
  | cons a t=>refine⟨T.aa 5 false (aO (a::t)),ai ?_,by rw [bO];rfl⟩;rw [show kY (a::t)= [z5,oY 2,ad.sl false 5 false (aO (a::t))] from rfl,Gh];simp only [ao,↓reduceIte,d,h]
 | cons m r w=>
  intro i rest acc g v k f c;obtain⟨g1,A,u⟩:=bt g;have hm:=j.ok m (Xg g1);have d:(i:Int) < (b.length:Int):=by omega
  have h0: 0<=(i:Int):=by omega
  have o:¬(i:Int) < 0:=by omega
  have e:=Jq k hm.re (show i<=8 by omega);have hrl:=hm.ok.rl;have z:=(zb false (gp b) m.rs acc).1;rw [Xj] at f;obtain⟨x,q,s⟩:=w (i+1) (rest+m.re.n * 2 ^ i) (fQ false (gp b) acc m.rs) u (by omega) (EX k hm.re) (by omega) (za false (gp b) (P:=λl=>l.length<=1000) m.rs acc c hm.ok.al);refine⟨x, ?_,by rw [gQ];exact s⟩;rw [Xq,mw,<-Int.add_assoc];have p:=RA (eb:=eb) (rest:=rest+m.re.n * 2 ^ i) j hm (show i<=8 by omega) m.rs 0 acc rfl (by omega) c q;unfold zC at e;refine ai ?_;cases acc with
  | nil=>rw [show kY []= [z5,z5] from rfl,Gg];simp only [ao,↓reduceIte,d,h0,o,and_self,iY,dA,yJ g1,oT,cY,Xv,e];exact p
  | cons a t=>rw [show kY (a::t)= [z5,oY 2,ad.sl false 5 false (aO (a::t))] from rfl,Gh];simp only [ao,↓reduceIte,d,h0,o,and_self,iY,dA,yJ g1,oT,cY,Xv,e];exact p
theorem TP{eb:Bool}{a:List Me}(c:vd a):∃x,Or (.call 28) [bT eb a] []=some [x,ti (oP a),ti 1,T.aa 2 true [],ti 0]/\x.aQ 5=some ((l9 false a).isEmpty,aO (l9 false a)):=by have e:=c.bl;obtain⟨x,b,d⟩:=Rz (eb:=eb) c a 0 0 [] rfl (XZ _) (by decide) (by simp;omega) (λx h=>by cases h);rw [Int.zero_add] at b;refine⟨x,ai ?_,d⟩;rw [NR];simp only [iY];exact b
def pA(j:List Me->Me)(c:Me->Me):List Dc->List Me->Option (List Me)
 | [],_=>some []
 | d::ds,ms=>if aG d.so=true then(if 1000 < (j (ms.take (de d.so))).rs.length then none else(pA j c ds (ms.drop (de d.so))).map (j (ms.take (de d.so))::·))
  else(ms.head?).bind λm=>(pA j c ds ms.tail).map (c m::·)
def pV:List Dc->List Me->Prop
 | [],_=>True
 | d::ds,ms=>if aG d.so=true then(de d.so<=ms.length/\(∀m∈ms.take (de d.so),u7 m)/\pV ds (ms.drop (de d.so)))
  else(∃m t,ms=m::t/\gw m/\oz m/\pV ds t)
abbrev py:=pA (iy false) jK
def oA(ew:Bool)(ms:List Me):List Me->List ad
 | []=> [og ew ms,ez,fz,ez]
 | a::t=> [og ew ms,ez,fz,ad.box [ow 4],ad.sl false 5 false (eU (a::t))]
def AJ(acc:List Me):Option (List Me)->List T->Prop
 | none,r=>r= [T.aC true,ti 10,ti 0]
 | some l,r=>∃x,r= [x,ti 0,ti 0]/\x.aQ 5=some ((acc++l).isEmpty,eU (acc++l))
theorem Em{acc:List Me}{m:Me}{o:Option (List Me)}{r:List T}(h:AJ (acc++ [m]) o r):AJ acc (o.map (m::·)) r:=by
 cases o with
 | none=>exact h
 | some l=>obtain⟨x,b,a⟩:=h;exact⟨x,b,by rw [XC] at a;exact a⟩
theorem Q8{ed ew:Bool}{ds:List Dc}{ms:List Me}(P:ds.length<=100)(S:ms.length<=1000):∀(r:List Dc) (i b:Nat) (acc:List Me),ds.drop i=r->b<=ms.length->pV r (ms.drop b)->acc.length+r.length<=1000->
  ∃R,Or pM [rf 0,rf 1,rf 2,rf 3,I (b:Int),AV.t (T.aa 3 ed (aT ds)),I (ds.length:Int),I (i:Int)] (oA ew ms acc)=some R/\AJ acc (py r (ms.drop b)) R:=by
 intro r;induction r with
 | nil=>
  intro i b acc g G f A;have h:¬(i:Int) < (ds.length:Int):=by have:=bu g;omega
  cases acc with
  | nil=>refine⟨[T.aC true,ti 0,ti 0],ai ?_,⟨T.aC true,rfl,rfl⟩⟩;rw [show oA ew ms []= [og ew ms,ez,fz,ez] from rfl,yy];simp only [ao,↓reduceIte,h]
  | cons a t=>refine⟨[T.aa 5 false (eU (a::t)),ti 0,ti 0],ai ?_,⟨_,rfl,by rw [bO,XA];rfl⟩⟩;rw [show oA ew ms (a::t)= [og ew ms,ez,fz,ad.box [ow 4],ad.sl false 5 false (eU (a::t))] from rfl,yz];simp only [ao,↓reduceIte,h]
 | cons d r L=>
  intro i b acc g G f A;obtain⟨g1,V,D⟩:=bt g;have h:(i:Int) < (ds.length:Int):=by omega
  have h0: 0<=(i:Int):=by omega
  have e:=iB d.so;rw [Xj] at A;rw [pV] at f;rw [show py (d::r) (ms.drop b)=pA (iy false) jK (d::r) (ms.drop b) from rfl,pA];cases z:aG d.so with
  | false=>
   rw [z,if_neg (by decide)] at f;obtain⟨m,t,B,wf,ok,f⟩:=f;obtain⟨M,Y,N⟩:=bt B;rw [if_neg (by decide),B,Yl,Xb,Y4];rw [z] at e;obtain⟨x,y,C,k,K⟩:=Tv wf ok;have E:(b:Int) < (ms.length:Int):=by omega
   have F: 0<=(b:Int):=by omega
   obtain⟨R,v,l⟩:=L (i+1) (b+1) (acc++ [jK m]) D (by omega) (by rw [N];exact f) (by rw [XK,Xh];omega);rw [N] at l;refine⟨R,ai ?_,Em l⟩;have hl: [[T.aa 5 m.rs.isEmpty (aO (m.rs.map nE)),ti m.re.n,ti m.re.d,T.aa 2 m.re.ec (bW m.re.cs),ti m.re.r]]= [[mT (jK m),ti (jK m).re.n,ti (jK m).re.d,cT (jK m).re,ti (jK m).re.r]]:=rfl;cases acc with
   | nil=>rw [show oA ew ms []= [og ew ms,ez,fz,ez] from rfl,yy];simp only [aI,aL,aU,bA,aP,fW,bO,aS,eC,↓reduceIte,h,h0,E,F,and_self,cR,iY,fh g1,vS M,oT,cY,e,C,k,K,Xe,next i (by omega),next b (by omega),hl];exact v
   | cons a t=>rw [show oA ew ms (a::t)= [og ew ms,ez,fz,ad.box [ow 4],ad.sl false 5 false (eU (a::t))] from rfl,yz];simp only [aI,aL,aU,bA,aP,fW,bO,aS,eC,↓reduceIte,h,h0,E,F,and_self,cR,iY,fh g1,vS M,oT,cY,e,C,k,K,Xe,next i (by omega),next b (by omega),dc (show(a::t).length+1<=1000000 by omega),hl,PH];exact v
  | true=>
   rw [z,if_pos rfl] at f;obtain⟨O,o,f⟩:=f;rw [if_pos rfl];rw [z] at e;have X:=wk.1 z;have U:de d.so<=8/\1<=de d.so:=by unfold de;omega
   have s:i64.wrap (d.so - 10)= ((de d.so:Nat):Int):=by rw [wr (by omega)];unfold de;omega
   rw [Yi] at O;have q:i64.wrap ((b:Int)+ ((de d.so:Nat):Int))= ((b+de d.so:Nat):Int):=by rw [wr (by omega)];omega
   have p:gH (b:Int) ((b+de d.so:Nat):Int) (ms.length:Int)=some ():=by unfold gH;rw [if_pos ⟨by omega,by omega,by omega⟩]
   have j:sub (b:Int) ((b+de d.so:Nat):Int) (eU ms)=eU ((ms.drop b).take (de d.so)):=by unfold sub;rw [Xv,Xv,ZM];simp [eU]
   have H:vd ((ms.drop b).take (de d.so)):=⟨by rw [XW];omega,o⟩;obtain⟨x,u,k⟩:=TP (eb:=ew) H;have J:∀m∈(ms.drop b).take (de d.so),m.rs.length<=1000:=λm hm=>(o m hm).ok.rl;have Q:(l9 false ((ms.drop b).take (de d.so))).length<=8000:=by have:=H3 false (gp ((ms.drop b).take (de d.so))) ((ms.drop b).take (de d.so)) [] J;have W:=H.bl;unfold l9;simp only [Xu] at this;omega
   by_cases w: 1000 < (l9 false ((ms.drop b).take (de d.so))).length
   .have c:((l9 false ((ms.drop b).take (de d.so))).length:Int) > 1000:=by omega
    rw [if_pos (show 1000 < (iy false ((ms.drop b).take (de d.so))).rs.length from w)];refine⟨[T.aC true,ti 10,ti 0],ai ?_,rfl⟩;cases acc with
    | nil=>rw [show oA ew ms []= [og ew ms,ez,fz,ez] from rfl,yy];simp only [aI,aL,aU,bA,aP,fW,bO,aV,eC,↓reduceIte,h,h0,and_self,cR,iY,dA,fh g1,e,Xc,s,q,p,j,u,k,c]
    | cons a t=>rw [show oA ew ms (a::t)= [og ew ms,ez,fz,ad.box [ow 4],ad.sl false 5 false (eU (a::t))] from rfl,yz];simp only [aI,aL,aU,bA,aP,fW,bO,aV,eC,↓reduceIte,h,h0,and_self,cR,iY,dA,fh g1,e,Xc,s,q,p,j,u,k,c]
   .have c:¬((l9 false ((ms.drop b).take (de d.so))).length:Int) > 1000:=by omega
    rw [if_neg (show ¬1000 < (iy false ((ms.drop b).take (de d.so))).rs.length from w)];rw [ZJ] at f⊢;obtain⟨R,v,l⟩:=L (i+1) (b+de d.so) (acc++ [iy false ((ms.drop b).take (de d.so))]) D (by omega) f (by rw [XK,Xh];omega);refine⟨R,ai ?_,Em l⟩;have hl: [[T.aa 5 (l9 false ((ms.drop b).take (de d.so))).isEmpty (aO (l9 false ((ms.drop b).take (de d.so)))),ti (oP ((ms.drop b).take (de d.so))),ti 1,T.aa 2 true [],ti 0]]=eU [iy false ((ms.drop b).take (de d.so))]:=rfl;cases acc with
    | nil=>rw [show oA ew ms []= [og ew ms,ez,fz,ez] from rfl,yy];simp only [aI,aL,aU,bA,aP,fW,bO,aV,eC,↓reduceIte,h,h0,and_self,cR,iY,dA,fh g1,e,Xc,s,q,p,j,u,k,c,next i (by omega),hl];exact v
    | cons a t=>rw [show oA ew ms (a::t)= [og ew ms,ez,fz,ad.box [ow 4],ad.sl false 5 false (eU (a::t))] from rfl,yz];simp only [aI,aL,aU,bA,aP,fW,bO,aV,eC,↓reduceIte,h,h0,and_self,cR,iY,dA,fh g1,e,Xc,s,q,p,j,u,k,c,next i (by omega),dc (show(a::t).length+1<=1000000 by omega),hl];rw [show eU (a::t)++eU [iy false ((ms.drop b).take (de d.so))]=eU ((a::t)++ [iy false ((ms.drop b).take (de d.so))]) by simp [eU]];exact v
open Go Go.Aev Go.IntKind
def oq:List Dc->List Dc->Prop
 | [],D=>D= []
 | d::ds,D=>if aG d.so=true then(∃B a,D=B++a/\B.length=de d.so/\(∀x∈B,x.so=1)/\oq ds a) else(∃x a,D=x::a/\oq ds a)
theorem E0(p:ByteArray)(k:Nat)(d:Dc):∀(n b:Nat),∀x∈fY p k d b n,x.so=1
 | 0,_,x,h=>by cases h
 | n+1,b,x,h=>by
  rw [fY,Xl] at h;rcases h with rfl | h
  .rfl
  .exact E0 p k d n (b+1) x h
theorem BY(p:ByteArray):∀(ds:List Dc) (k:Nat),oq ds (cz p k ds)
 | [],_=>rfl
 | d::ds,k=>by
  rw [oq,cz];split
  .rename_i h;exact⟨_,_,rfl,nz _ _ _ _ _,E0 _ _ _ _ _,BY p ds (k+1)⟩
  .exact⟨d,_,rfl,BY p ds (k+1)⟩
theorem Hc:∀(ds:List Dc),(∀d∈ds,aG d.so=false)->oq ds ds
 | [],_=>rfl
 | d::ds,h=>by rw [oq,if_neg (by rw [h d W7];decide)];exact⟨d,ds,rfl,Hc ds λx a=>h x (W8 _ a)⟩
theorem wg{v:Va}(h:dO 1 v=true):v.n=0\/v.n=1:=by
 unfold dO at h;rw [if_neg (by decide)] at h;split at h
 .cases h
 .rw [if_pos rfl] at h;simpa using h
theorem DZ:∀(ds D:List Dc) (ms:List Me),oq ds D->ms.length=D.length->(∀m∈ms,gw m/\oz m)->(∀(j:Nat) (d:Dc) (m:Me),D[j]? =some d->ms[j]? =some m->ft d m=0)->pV ds ms
 | [],D,ms,_,_,_,_=>trivial
 | d::ds,D,ms,a,hl,f,n=>by
  rw [oq] at a;rw [pV];split
  .rename_i h;rw [if_pos h] at a;obtain⟨B,g,rfl,r,q,a⟩:=a;rw [XK] at hl;refine⟨by omega,λm hm=> ?_,DZ ds g (ms.drop (de d.so)) a (by rw [Yi];omega) (λm hm=>f m (Zg hm)) (λj l m b hm=> ?_)⟩
   .obtain⟨j,i⟩:=X1 hm;rw [YB] at i;split at i
    .rename_i s;have c:j < B.length:=by omega
     have b:(B++g)[j]? =some B[j]:=by rw [Xk c,Xd c]
     obtain⟨u,v,c3,p⟩:=CL (n j _ m b i);have hs:=q _ (Y5 c);rw [hs] at c3 p;have k:=f m (YX hm);exact⟨wg c3,λe a=>wg (p e a),k.2,k.1.ea⟩
    .cases i
   .rw [YT] at hm;exact n (de d.so+j) l m (by rw [<-r,Xs (by omega),ZM];exact b) hm
  .rename_i h;rw [if_neg h] at a;obtain⟨x,g,rfl,a⟩:=a;cases ms with
   | nil=>simp at hl
   | cons m t=>exact⟨m,t,rfl,(f m W7).1,(f m W7).2,DZ ds g t a (by simpa using hl) (λy o=>f y (W8 _ o)) (λj l y b o=>n (j+1) l y (by simpa using b) (by simpa using o))⟩
open Go Go.Aev Go.IntKind
structure Ei (d:Dc) (m:Me):Prop where
 l:m.rs.length<=1000
 a:(m.rs.any λe=> !((e.ar.length:Int)== (d.ar.length:Int)))=false
 t:(m.rs.any λe=>e.ar.any λn=> !eL n)=false
 u:kC [] m.rs=false
 r:dO d.so m.re=true
 v:(m.rs.any λe=> !dO d.so e.to)=false
theorem zn{d:Dc}{m:Me}(h:ft d m=0):Ei d m:=by
 unfold ft at h;split at h
 .exact absurd h (by decide)
 rename_i f;split at h
 .exact absurd h (by decide)
 rename_i a;split at h
 .exact absurd h (by decide)
 rename_i c3;split at h
 .exact absurd h (by decide)
 rename_i b;split at h
 .exact absurd h (by decide)
 rename_i c;split at h
 .exact absurd h (by decide)
 rename_i e;exact⟨by omega,by simpa using a,by simpa using c3,by simpa using b,by simpa using c,by simpa using e⟩
theorem IN{d:Dc}{m:Me}(h:Ei d m):ft d m=0:=by unfold ft;rw [if_neg (by have:=h.l;omega),h.a,h.t,h.u,h.r,h.v];rfl
theorem AO{f:En->En}{P:List Int->Bool}(a:∀e,(f e).ar=e.ar)(l:List En):((l.map f).any λe=>P e.ar)=l.any λe=>P e.ar:=by rw [List.any_map];congr 1;funext e;show P (f e).ar=P e.ar;rw [a]
theorem FE{f:En->En}(c:∀e,(f e).ar=e.ar):∀(r b:List En),kC (b.map f) (r.map f)=kC b r
 | [],b=>rfl
 | e::r,b=>by rw [Xq,kC,kC,c e,AO (P:=λa=>decide (a=e.ar)) c];have:=FE c r (b++ [e]);rw [YY,Xq,XY] at this;rw [this]
theorem QW{d:Dc}{m:Me}(h:ft d m=0):ft d (jK m)=0:=by
 have k:=zn h;have b:∀e,(nE e).ar=e.ar:=λe=>rfl;refine IN ⟨by show(m.rs.map nE).length<=1000;rw [XQ];exact k.l, ?_, ?_, ?_,k.r, ?_⟩
 .show((m.rs.map nE).any λe=> !((e.ar.length:Int)== (d.ar.length:Int)))=false;rw [AO (P:=λa=> !((a.length:Int)== (d.ar.length:Int))) b];exact k.a
 .show((m.rs.map nE).any λe=>e.ar.any λn=> !eL n)=false;rw [AO (P:=λa=>a.any λn=> !eL n) b];exact k.t
 .show kC (List.map nE []) (m.rs.map nE)=false;rw [FE b];exact k.u
 .show((m.rs.map nE).any λe=> !dO d.so e.to)=false;rw [List.any_map];exact k.v
def jZ:List Dc->List Me->Prop
 | [],[]=>True
 | d::ds,m::ms=>ft d m=0/\jZ ds ms
 | _,_=>False
theorem xW:∀{ds:List Dc} {ms:List Me},ms.length=ds.length->(∀(j:Nat) (d:Dc) (m:Me),ds[j]? =some d->ms[j]? =some m->ft d m=0)->jZ ds ms
 | [],[],_,_=>trivial
 | [],_::_,h,_=>by simp at h
 | _::_,[],h,_=>by simp at h
 | d::ds,m::ms,h,a=>⟨a 0 d m rfl rfl,xW (by simpa using h) λj b f c e=>a (j+1) b f (by simpa using c) (by simpa using e)⟩
theorem AM:∀{ds:List Dc} {ms:List Me},jZ ds ms->ms.length=ds.length/\∀i,nF i ds ms= (0,0)
 | [],[],_=>⟨rfl,λi=>rfl⟩
 | [],_::_,h=>h.elim
 | _::_,[],h=>h.elim
 | d::ds,m::ms,h=>by obtain⟨a,b⟩:=AM h.2;exact⟨by rw [Xj,Xj,a],λi=>by rw [nF,if_pos h.1];exact b _⟩
end Go.Aev.Gen
