import Derived.Test.YtcjplcpngagalaaDoorBlastRoundQ13
set_option linter.all false
namespace Go.Aev.Gen
open Go Go.Aev Go.IntKind
theorem uJ{l:List Me}{i:Nat}{m:Me}(h:l[i]? =some m):(cv l)[i]? =some [mT m,ti m.re.n,ti m.re.d,cT m.re,ti m.re.r]:=by simp [cv,h]
def vH(a n:Int)(k:Nat):Int:=i64.wrap ((BitVec.ofInt 64 a ||| BitVec.ofInt 64 (i64.wrap (n * 2 ^ min k 64))).toNat:Int)
theorem NI{k:Nat}(a:k<=8):(2:Int) ^ k<=256/\(0:Int) < 2 ^ k:=by rcases(by omega:k=0\/k=1\/k=2\/k=3\/k=4\/k=5\/k=6\/k=7\/k=8) with rfl | rfl | rfl | rfl | rfl | rfl | rfl | rfl | rfl <;> decide
theorem E7{a n:Int}{k:Nat}(c: 0<=a/\a < 2 ^ k)(i:n=0\/n=1)(h:k<=8):vH a n k=a+n * 2 ^ k:=by
 have l:=NI h;have hm:min k 64=k:=by omega
 obtain⟨x,rfl⟩:=Tb c.1;have d:x < 2 ^ k:=by have:=c.2;exact_mod_cast this
 have b:x < 2 ^ 64:=RC d (Nat.pow_le_pow_right (by decide) (by omega));have j:(x:Int) < 256:=by omega
 unfold vH;rw [hm];rcases i with rfl | rfl
 .rw [Int.zero_mul,wr (v:=0) (by omega)];have:BitVec.ofInt 64 (x:Int) ||| BitVec.ofInt 64 0=BitVec.ofNat 64 x:=by
   rw [show BitVec.ofInt 64 0=0#64 from rfl,BitVec.or_zero,Tp]
  rw [this,Tw,SV b,wr (by omega)];omega
 .rw [Int.one_mul,wr (v:=2 ^ k) (by omega)];have e: 2 ^ k < 2 ^ 64:=Nat.pow_lt_pow_right (by decide) (by omega);have f:BitVec.ofInt 64 ((2:Int) ^ k)=BitVec.ofNat 64 (2 ^ k):=by
   rw [show((2:Int) ^ k)= ((2 ^ k:Nat):Int) by simp,Tp]
  rw [f,Tp,BitVec.toNat_or,Tw,Tw,SV b,SV e];have g:x ||| 2 ^ k=x+2 ^ k:=by have:=Nat.two_pow_add_eq_or_of_lt d 1;rw [Nat.mul_one] at this;rw [Nat.or_comm,<-this];omega
  rw [g];have e3:(((x+2 ^ k:Nat)):Int)= (x:Int)+2 ^ k:=by simp
  rw [e3,wr (by omega)]
theorem AY{a n:Int}{k:Nat}(c: 0<=a/\a < 2 ^ k)(b:n=0\/n=1): 0<=a+n * 2 ^ k/\a+n * 2 ^ k < 2 ^ (k+1):=by
 have:(2:Int) ^ (k+1)=2 ^ k * 2:=by rw [Int.pow_succ]
 rcases b with rfl | rfl <;> omega
def jM:Nat->List Int->Int
 | _,[]=>0
 | k,n::r=>n * 2 ^ k+jM (k+1) r
def jJ:List En->Int->List Int->Int
 | [],d,_=>d
 | e::r,d,x=>if e.ar=x then e.to.n else jJ r d x
def kv(m:Me)(x:List Int):Int:=jJ m.rs m.re.n x
structure rC (m:Me):Prop where
 re:m.re.n=0\/m.re.n=1
 to:∀e∈m.rs,e.to.n=0\/e.to.n=1
 ok:eU m
 ea:∀e∈m.rs,e.ea=true->e.ar= []
theorem GM{d:Int}{x:List Int}(a:d=0\/d=1):∀{l:List En},(∀e∈l,e.to.n=0\/e.to.n=1)->jJ l d x=0\/jJ l d x=1
 | [],_=>a
 | e::r,h=>by
  rw [jJ];split
  .exact h e QA
  .exact GM a λy b=>h y (QB _ b)
theorem P7{m:Me}(h:rC m)(x:List Int):kv m x=0\/kv m x=1:=GM h.re h.to
theorem MI{m:Me}{ex:Bool}{x:List Int}(ok:eU m):∀(r:List En) (i:Nat),m.rs.drop i=r->
  Or tL [ab ex x,r0,AV.t (T.ab 5 m.er (aH m.rs)),I (m.rs.length:Int),I (i:Int)] [ja m]=some [ti (jJ r m.re.n x)]:=by
 have:=ok.rl;intro r;induction r with
 | nil=>
  intro i g;have c:¬(i:Int) < (m.rs.length:Int):=by have:=bh g;omega
  refine ah ?_;rw [xM];simp only [aj,↓reduceIte,c,jJ]
 | cons e r l=>
  intro i g;obtain⟨f,o,h⟩:=bm g;have c:(i:Int) < (m.rs.length:Int):=by omega
  have h0: 0<=(i:Int):=by omega
  have k:=wc (e:=e.ea) (e':=ex) (a:=e.ar) (b:=x) (ok.al e (QH f));have j:=l (i+1) h;rw [jJ];by_cases d:e.ar=x
  .rw [decide_eq_true d] at k;rw [if_pos d];refine ah ?_;rw [xM];simp only [aK,aP,bA,bC,ba,bU,c,h0,and_self,cu,fh f,cN,k,a8,df,↓reduceIte]
  .rw [decide_eq_false d] at k;rw [if_neg d];refine ah ?_;rw [xM];simp only [aK,aP,bA,bC,ba,bU,c,h0,and_self,cu,fh f,cN,k,bo,df,↓reduceIte,next i (by omega)];exact j
theorem OZ{m:Me}{ex:Bool}{x:List Int}(ok:eU m):Or (.call 36) [MG m,ab ex x] []=some [ti (kv m x)]:=by have a:=MI (ex:=ex) (x:=x) ok m.rs 0 rfl;refine ah ?_;rw [JC];simp only [cu];exact a
def nu(q:Bool)(v:Int):Va:=⟨q,v,1,true,[],0⟩
def eO(q:Bool)(val:List Int->Int):List En->List En->List En
 | acc,[]=>acc
 | acc,e::r=>if(acc.any λx=>decide (x.ar=e.ar))=true then eO q val acc r else eO q val (acc++ [⟨e.ea,e.ar,nu q (val e.ar)⟩]) r
def gX(q:Bool)(val:List Int->Int):List En->List Me->List En
 | acc,[]=>acc
 | acc,m::r=>gX q val (eO q val acc m.rs) r
def fW(a:List Me)(x:List Int):Int:=jM 0 (a.map λm=>kv m x)
def se(a:List Me):Int:=jM 0 (a.map λm=>m.re.n)
def gY(q:Bool)(a:List Me):List En:=gX q (fW a) [] a
def fX(q:Bool)(a:List Me):Me:=⟨q && (gY q a).isEmpty,(gY q a).isEmpty,gY q a,nu q (se a)⟩
theorem vh(q:Bool)(val:List Int->Int):∀(r a:List En),(eO q val a r).length<=a.length+r.length/\a.length<=(eO q val a r).length
 | [],a=>by simp [eO]
 | e::r,a=>by
  rw [eO];split
  .have:=vh q val r a;rw [QJ];omega
  .have:=vh q val r (a++ [⟨e.ea,e.ar,nu q (val e.ar)⟩]);rw [Ro,QM] at this;rw [QJ];omega
theorem DU(q:Bool)(val:List Int->Int):∀(r:List Me) (a:List En),(∀m∈r,m.rs.length<=1000)->(gX q val a r).length<=a.length+1000 * r.length
 | [],a,_=>by simp [gX]
 | m::r,a,h=>by have c:=DU q val r (eO q val a m.rs) λx b=>h x (QB _ b);have d:=vh q val m.rs a;have e:=h m QA;rw [gX,QJ];omega
theorem vg(q:Bool)(val:List Int->Int){P:List Int->Prop}:∀(r b:List En),(∀e∈b,P e.ar)->(∀e∈r,P e.ar)->∀e∈eO q val b r,P e.ar
 | [],b,h,_=>h
 | e::r,b,h,c=>by
  rw [eO];split
  .exact vg q val r b h λy a=>c y (QB _ a)
  .refine vg q val r _ (λy a=> ?_) λy a=>c y (QB _ a);rcases QR.1 a with a | a
   .exact h y a
   .simp only [QL] at a;subst a;exact c e QA
theorem DT(q:Bool)(val:List Int->Int){P:List Int->Prop}:∀(r:List Me) (a:List En),(∀e∈a,P e.ar)->(∀m∈r,∀e∈m.rs,P e.ar)->∀e∈gX q val a r,P e.ar
 | [],a,h,_=>h
 | m::r,a,h,b=>by rw [gX];exact DT q val r _ (vg q val m.rs a h (b m QA)) λx c=>b x (QB _ c)
abbrev z5:ad:=ad.box [AV.t (T.ae true),I 0,I 0,AV.t (T.ae true),I 0]
abbrev mw(k:Nat):ad:=ad.box [ow k,I 0,I 0,AV.t (T.ae true),I 0]
abbrev eB(e:En):ad:=ad.box [AV.t (T.ab 1 e.ea (enc e.ar)),I e.to.n,I e.to.d,AV.t (T.ab 2 e.to.ec (bV e.to.cs)),I e.to.r]
abbrev bT(e:Bool)(a:List Me):AV:=AV.t (T.ab 5 e (cv a))
def jn:List En->List ad
 | []=> [z5,z5]
 | a::t=> [z5,mw 2,ad.sl false 5 false (aH (a::t))]
def rP(e:En):List En->List ad
 | []=> [z5,z5,eB e]
 | a::t=> [z5,mw 3,eB e,ad.sl false 5 false (aH (a::t))]
structure rD (bs:List Me):Prop where
 bl:bs.length<=8
 ok:∀m∈bs,rC m
theorem Mo{eb:Bool}{b:List Me}{m:Me}{e:En}{rest:Int}{i j:Nat}{c:List En}{R:List T}(v:rD b)(z:e.ea=true->e.ar= [])(K:e.ar.length<=1000)(M:j<=1000)(H:c.length<=100000)
  (D:Or lA [bT eb b,r0,r1,I rest,bT eb b,I (b.length:Int),I (i:Int),AV.t (T.ab 5 m.er (aH m.rs)),I (m.rs.length:Int),I ((j+1:Nat):Int)] (jn (c++ [⟨e.ea,e.ar,nu false (fW b e.ar)⟩]))=some R):∀(r:List Me) (k:Nat) (w:Int),b.drop k=r->k<=b.length->0<=w/\w < 2 ^ k->w+jM k (r.map λx=>kv x e.ar)=fW b e.ar->
  Or oh [bT eb b,r0,r1,I rest,rf 2,I w,bT eb b,I (b.length:Int),I (i:Int),AV.t (T.ab 5 m.er (aH m.rs)),I (m.rs.length:Int),I (j:Int),bT eb b,I (b.length:Int),I (k:Int)] (rP e c)=some R:=by
 have J:=v.bl;intro r;induction r with
 | nil=>
  intro k w g F s hs;have d:¬(k:Int) < (b.length:Int):=by have:=bh g;omega
  obtain⟨y,o,C⟩:=iE e.ea e.ar z (by omega);have n:Or (.call 17) [I w] []=some [ti w,ti 1,T.ae true,ti 0]:=by refine ah ?_;rw [xw]
  rw [Rz,jM,Int.add_zero] at hs;have hl:∀l:List En,aH l++ [[T.ab 1 e.ea (enc e.ar),ti w,ti 1,T.ab 2 true [],ti 0]]=aH (l++ [⟨e.ea,e.ar,nu false (fW b e.ar)⟩]):=λl=>by rw [<-uG,hs];rfl
  have A: [[T.ab 1 e.ea (enc e.ar),ti w,ti 1,T.ab 2 true [],ti 0]]=aH [⟨e.ea,e.ar,nu false (fW b e.ar)⟩]:=by rw [hs];rfl
  refine ah ?_;cases c with
  | nil=>rw [show rP e []= [z5,z5,eB e] from rfl,B6];simp only [aj,↓reduceIte,d,o,C,n,next j (by omega),A];exact D
  | cons a t=>rw [show rP e (a::t)= [z5,mw 3,eB e,ad.sl false 5 false (aH (a::t))] from rfl,B7];simp only [aj,↓reduceIte,d,o,C,n,next j (by omega),cu,QM,cC (show(a::t).length+1<=1000000 by omega)];rw [hl];exact D
 | cons x r G=>
  intro k w g F s hs;obtain⟨q,L,E⟩:=bm g;have hm:=v.ok x (QH q);have d:(k:Int) < (b.length:Int):=by omega
  have h0: 0<=(k:Int):=by omega
  have u:¬(k:Int) < 0:=by omega
  have p:=OZ (ex:=e.ea) (x:=e.ar) hm.ok;have f:=P7 hm e.ar;have h:=E7 s f (show k<=8 by omega);have B:=G (k+1) (w+kv x e.ar * 2 ^ k) E (by omega) (AY s f) (by rw [Rc,jM] at hs;rw [<-hs];omega);unfold vH at h;refine ah ?_;cases c with
  | nil=>rw [show rP e []= [z5,z5,eB e] from rfl,B6];simp only [aj,↓reduceIte,d,h0,u,and_self,ei,uJ q,jy,cN,p,Q8,h,next k (by omega)];exact B
  | cons a t=>rw [show rP e (a::t)= [z5,mw 3,eB e,ad.sl false 5 false (aH (a::t))] from rfl,B7];simp only [aj,↓reduceIte,d,h0,u,and_self,ei,uJ q,jy,cN,p,Q8,h,next k (by omega)];exact B
theorem Mn{eb:Bool}{k:List Me}{m:Me}{rest:Int}{i:Nat}{R:List T}(C:rD k)(hm:rC m)(E:i<=8):∀(r:List En) (j:Nat) (b:List En),m.rs.drop j=r->b.length+r.length<=100000->(∀x∈b,x.ar.length<=1000)->
  Or oo [bT eb k,r0,r1,I rest,bT eb k,I (k.length:Int),I ((i+1:Nat):Int)] (jn (eO false (fW k) b r))=some R->
  Or lA [bT eb k,r0,r1,I rest,bT eb k,I (k.length:Int),I (i:Int),AV.t (T.ab 5 m.er (aH m.rs)),I (m.rs.length:Int),I (j:Int)] (jn b)=some R:=by
 have:=hm.ok.rl;intro r;induction r with
 | nil=>
  intro j b g u c o;have p:¬(j:Int) < (m.rs.length:Int):=by have:=bh g;omega
  rw [eO] at o;refine ah ?_;cases b with
  | nil=>rw [show jn []= [z5,z5] from rfl,Ca];simp only [aj,↓reduceIte,p,next i (by omega)];exact o
  | cons a t=>rw [show jn (a::t)= [z5,mw 2,ad.sl false 5 false (aH (a::t))] from rfl,xF];simp only [aj,↓reduceIte,p,next i (by omega)];exact o
 | cons e r B=>
  intro j b g u c o;obtain⟨s,D,z⟩:=bm g;have v:=QH s;have p:(j:Int) < (m.rs.length:Int):=by omega
  have h0: 0<=(j:Int):=by omega
  rw [QJ] at u;rw [eO] at o;by_cases q:(b.any λx=>decide (x.ar=e.ar))=true
  .rw [if_pos q] at o;have w:=B (j+1) b z (by omega) c o;refine ah ?_;cases b with
   | nil=>cases q
   | cons a t=>have f:=zK (er:=false) (rs:=a::t) (y:=e) (by omega) (λx l=>Gc (c x l));rw [q] at f;rw [show jn (a::t)= [z5,mw 2,ad.sl false 5 false (aH (a::t))] from rfl,xF];simp only [aK,aP,bA,bC,ba,bU,a8,df,↓reduceIte,p,h0,and_self,cu,fh s,cN,f,next j (by omega)];exact w
  .rw [if_neg q] at o;rw [Si] at q;have w:=B (j+1) (b++ [⟨e.ea,e.ar,nu false (fW k e.ar)⟩]) z (by rw [Ro,QM];omega) (λx l=>by
    rcases QR.1 l with l | l
    .exact c x l
    .simp only [QL] at l;subst l;exact hm.ok.al e v) o
   have A:=Mo (eb:=eb) (m:=m) (rest:=rest) (i:=i) (j:=j) C (hm.ea e v) (hm.ok.al e v) (by omega) (by omega) w k 0 0 rfl (RL _) (by decide) (by rw [Int.zero_add];rfl);refine ah ?_;cases b with
   | nil=>have f:Or (.call 33) [AV.t (T.ab 5 true []),AV.fn 34 [] [AV.t (T.ptr [T.ab 1 e.ea (enc e.ar),ti e.to.n,ti e.to.d,T.ab 2 e.to.ec (bV e.to.cs),ti e.to.r])]] []=some [tb false]:=zK (er:=true) (rs:= []) (y:=e) (by simp) (λx h=>by cases h);rw [show jn []= [z5,z5] from rfl,Ca];simp only [aK,aP,bA,bC,ba,bU,bo,df,↓reduceIte,p,h0,and_self,cu,ei,fh s,cN,f];exact A
   | cons a t=>have f:=zK (er:=false) (rs:=a::t) (y:=e) (by omega) (λx l=>Gc (c x l));rw [q] at f;rw [show jn (a::t)= [z5,mw 2,ad.sl false 5 false (aH (a::t))] from rfl,xF];simp only [aK,aP,bA,bC,ba,bU,bo,df,↓reduceIte,p,h0,and_self,cu,ei,fh s,cN,f];exact A
theorem Mm{eb:Bool}{c:List Me}(o:rD c):∀(r:List Me) (i:Nat) (rest:Int) (b:List En),c.drop i=r->i<=c.length->0<=rest/\rest < 2 ^ i->b.length+1000 * r.length<=100000->(∀x∈b,x.ar.length<=1000)->
  ∃x,Or oo [bT eb c,r0,r1,I rest,bT eb c,I (c.length:Int),I (i:Int)] (jn b)=some [x,ti (rest+jM i (r.map λm=>m.re.n)),ti 1,T.ab 2 true [],ti 0]/\x.an 5=some ((gX false (fW c) b r).isEmpty,aH (gX false (fW c) b r)):=by
 have A:=o.bl;intro r;induction r with
 | nil=>
  intro i rest b g y p h d;have e:¬(i:Int) < (c.length:Int):=by have:=bh g;omega
  have j:Or (.call 17) [I rest] []=some [ti rest,ti 1,T.ae true,ti 0]:=by refine ah ?_;rw [xw]
  rw [Rz,jM,Int.add_zero,gX];cases b with
  | nil=>refine⟨T.ae true,ah ?_,rfl⟩;rw [show jn []= [z5,z5] from rfl,B8];simp only [aj,↓reduceIte,e,j]
  | cons a t=>refine⟨T.ab 5 false (aH (a::t)),ah ?_,by rw [bU];rfl⟩;rw [show jn (a::t)= [z5,mw 2,ad.sl false 5 false (aH (a::t))] from rfl,B9];simp only [aj,↓reduceIte,e,j]
 | cons m r z=>
  intro i rest b g y p h d;obtain⟨k,C,w⟩:=bm g;have hm:=o.ok m (QH k);have e:(i:Int) < (c.length:Int):=by omega
  have h0: 0<=(i:Int):=by omega
  have q:¬(i:Int) < 0:=by omega
  have f:=E7 p hm.re (show i<=8 by omega);have hrl:=hm.ok.rl;have B:=(vh false (fW c) m.rs b).1;rw [QJ] at h;obtain⟨x,u,v⟩:=z (i+1) (rest+m.re.n * 2 ^ i) (eO false (fW c) b m.rs) w (by omega) (AY p hm.re) (by omega) (vg false (fW c) (P:=λl=>l.length<=1000) m.rs b d hm.ok.al);refine⟨x, ?_,by rw [gX];exact v⟩;rw [Rc,jM,<-Int.add_assoc];have s:=Mn (eb:=eb) (rest:=rest+m.re.n * 2 ^ i) o hm (show i<=8 by omega) m.rs 0 b rfl (by omega) d u;unfold vH at f;refine ah ?_;cases b with
  | nil=>rw [show jn []= [z5,z5] from rfl,B8];simp only [aj,↓reduceIte,e,h0,q,and_self,ei,cu,uJ k,jy,cN,Q8,f];exact s
  | cons a t=>rw [show jn (a::t)= [z5,mw 2,ad.sl false 5 false (aH (a::t))] from rfl,B9];simp only [aj,↓reduceIte,e,h0,q,and_self,ei,cu,uJ k,jy,cN,Q8,f];exact s
theorem OE{eb:Bool}{a:List Me}(c:rD a):∃x,Or (.call 19) [bT eb a] []=some [x,ti (se a),ti 1,T.ab 2 true [],ti 0]/\x.an 5=some ((gY false a).isEmpty,aH (gY false a)):=by have e:=c.bl;obtain⟨x,b,d⟩:=Mm (eb:=eb) c a 0 0 [] rfl (RL _) (by decide) (by simp;omega) (λx h=>by cases h);rw [Int.zero_add] at b;refine⟨x,ah ?_,d⟩;rw [IS];simp only [ei];exact b
def jK(j:List Me->Me)(c:Me->Me):List Dc->List Me->Option (List Me)
 | [],_=>some []
 | d::ds,ms=>if aE d.so=true then(if 1000 < (j (ms.take (bB d.so))).rs.length then none else(jK j c ds (ms.drop (bB d.so))).map (j (ms.take (bB d.so))::·))
  else(ms.head?).bind λm=>(jK j c ds ms.tail).map (c m::·)
def mX:List Dc->List Me->Prop
 | [],_=>True
 | d::ds,ms=>if aE d.so=true then(bB d.so<=ms.length/\(∀m∈ms.take (bB d.so),rC m)/\mX ds (ms.drop (bB d.so)))
  else(∃m t,ms=m::t/\dQ m/\eU m/\mX ds t)
abbrev Ae:=jK (fX false) dS
def l8(ew:Bool)(ms:List Me):List Me->List ad
 | []=> [dI ew ms,ez,fz,ez]
 | a::t=> [dI ew ms,ez,fz,ad.box [ow 4],ad.sl false 5 false (cv (a::t))]
def wQ(a:List Me):Option (List Me)->List T->Prop
 | none,r=>r= [T.ae true,ti 10,ti 0]
 | some l,r=>∃x,r= [x,ti 0,ti 0]/\x.an 5=some ((a++l).isEmpty,cv (a++l))
theorem Ap{a:List Me}{m:Me}{o:Option (List Me)}{r:List T}(h:wQ (a++ [m]) o r):wQ a (o.map (m::·)) r:=by
 cases o with
 | none=>exact h
 | some l=>obtain⟨x,c,b⟩:=h;exact⟨x,c,by rw [Q6] at b;exact b⟩
theorem LM{ed ew:Bool}{ds:List Dc}{ms:List Me}(S:ds.length<=100)(V:ms.length<=1000):∀(r:List Dc) (i b:Nat) (c:List Me),ds.drop i=r->b<=ms.length->mX r (ms.drop b)->c.length+r.length<=1000->
  ∃R,Or mP [rf 0,rf 1,rf 2,rf 3,I (b:Int),AV.t (T.ab 3 ed (aI ds)),I (ds.length:Int),I (i:Int)] (l8 ew ms c)=some R/\wQ c (Ae r (ms.drop b)) R:=by
 intro r;induction r with
 | nil=>
  intro i b c g J h C;have j:¬(i:Int) < (ds.length:Int):=by have:=bh g;omega
  cases c with
  | nil=>refine⟨[T.ae true,ti 0,ti 0],ah ?_,⟨T.ae true,rfl,rfl⟩⟩;rw [show l8 ew ms []= [dI ew ms,ez,fz,ez] from rfl,uy];simp only [aj,↓reduceIte,j]
  | cons a t=>refine⟨[T.ab 5 false (cv (a::t)),ti 0,ti 0],ah ?_,⟨_,rfl,by rw [bU,QX];rfl⟩⟩;rw [show l8 ew ms (a::t)= [dI ew ms,ez,fz,ad.box [ow 4],ad.sl false 5 false (cv (a::t))] from rfl,uz];simp only [aj,↓reduceIte,j]
 | cons d r N=>
  intro i b c g J h C;obtain⟨w,X,F⟩:=bm g;have j:(i:Int) < (ds.length:Int):=by omega
  have h0: 0<=(i:Int):=by omega
  have f:=fZ d.so;rw [QJ] at C;rw [mX] at h;rw [show Ae (d::r) (ms.drop b)=jK (fX false) dS (d::r) (ms.drop b) from rfl,jK];cases B:aE d.so with
  | false=>
   rw [B,if_neg (by decide)] at h;obtain⟨m,t,D,wf,ok,h⟩:=h;obtain⟨O,q2,P⟩:=bm D;rw [if_neg (by decide),D,RK,QD,Ss];rw [B] at f;obtain⟨x,y,E,l,M⟩:=zI wf ok;have G:(b:Int) < (ms.length:Int):=by omega
   have H: 0<=(b:Int):=by omega
   obtain⟨R,z,o⟩:=N (i+1) (b+1) (c++ [dS m]) F (by omega) (by rw [P];exact h) (by rw [Ro,QM];omega);rw [P] at o;refine⟨R,ah ?_,Ap o⟩;have hl: [[T.ab 5 m.rs.isEmpty (aH (m.rs.map nE)),ti m.re.n,ti m.re.d,T.ab 2 m.re.ec (bV m.re.cs),ti m.re.r]]= [[mT (dS m),ti (dS m).re.n,ti (dS m).re.d,cT (dS m).re,ti (dS m).re.r]]:=rfl;cases c with
   | nil=>rw [show l8 ew ms []= [dI ew ms,ez,fz,ez] from rfl,uy];simp only [aK,aP,bA,bC,ba,fc,bU,a8,df,↓reduceIte,j,h0,G,H,and_self,cj,ei,dF w,nh O,jy,cN,f,E,l,M,QG,next i (by omega),next b (by omega),hl];exact z
   | cons a t=>rw [show l8 ew ms (a::t)= [dI ew ms,ez,fz,ad.box [ow 4],ad.sl false 5 false (cv (a::t))] from rfl,uz];simp only [aK,aP,bA,bC,ba,fc,bU,a8,df,↓reduceIte,j,h0,G,H,and_self,cj,ei,dF w,nh O,jy,cN,f,E,l,M,QG,next i (by omega),next b (by omega),QM,cC (show(a::t).length+1<=1000000 by omega),hl,uK];exact z
  | true=>
   rw [B,if_pos rfl] at h;obtain⟨Q,p,h⟩:=h;rw [if_pos rfl];rw [B] at f;have Z:=qA.1 B;have W:bB d.so<=8/\1<=bB d.so:=by unfold bB;omega
   have u:i64.wrap (d.so - 10)= ((bB d.so:Nat):Int):=by rw [wr (by omega)];unfold bB;omega
   rw [RM] at Q;have s:i64.wrap ((b:Int)+ ((bB d.so:Nat):Int))= ((b+bB d.so:Nat):Int):=by rw [wr (by omega)];omega
   have q:fp (b:Int) ((b+bB d.so:Nat):Int) (ms.length:Int)=some ():=by unfold fp;rw [if_pos ⟨by omega,by omega,by omega⟩]
   have k:sub (b:Int) ((b+bB d.so:Nat):Int) (cv ms)=cv ((ms.drop b).take (bB d.so)):=by unfold sub;rw [Q8,Q8,Nat.add_sub_cancel_left];simp [cv]
   have K:rD ((ms.drop b).take (bB d.so)):=⟨by rw [Rw];omega,p⟩;obtain⟨x,v,l⟩:=OE (eb:=ew) K;have L:∀m∈(ms.drop b).take (bB d.so),m.rs.length<=1000:=λm hm=>(p m hm).ok.rl;have U:(gY false ((ms.drop b).take (bB d.so))).length<=8000:=by have:=DU false (fW ((ms.drop b).take (bB d.so))) ((ms.drop b).take (bB d.so)) [] L;have Y:=K.bl;unfold gY;simp only [QW] at this;omega
   by_cases A: 1000 < (gY false ((ms.drop b).take (bB d.so))).length
   .have e:((gY false ((ms.drop b).take (bB d.so))).length:Int) > 1000:=by omega
    rw [if_pos (show 1000 < (fX false ((ms.drop b).take (bB d.so))).rs.length from A)];refine⟨[T.ae true,ti 10,ti 0],ah ?_,rfl⟩;cases c with
    | nil=>rw [show l8 ew ms []= [dI ew ms,ez,fz,ez] from rfl,uy];simp only [aK,aP,bA,bC,ba,fc,bU,bo,df,↓reduceIte,j,h0,and_self,cj,ei,cu,dF w,f,QE,u,s,q,k,v,l,e]
    | cons a t=>rw [show l8 ew ms (a::t)= [dI ew ms,ez,fz,ad.box [ow 4],ad.sl false 5 false (cv (a::t))] from rfl,uz];simp only [aK,aP,bA,bC,ba,fc,bU,bo,df,↓reduceIte,j,h0,and_self,cj,ei,cu,dF w,f,QE,u,s,q,k,v,l,e]
   .have e:¬((gY false ((ms.drop b).take (bB d.so))).length:Int) > 1000:=by omega
    rw [if_neg (show ¬1000 < (fX false ((ms.drop b).take (bB d.so))).rs.length from A)];rw [S9] at h⊢;obtain⟨R,z,o⟩:=N (i+1) (b+bB d.so) (c++ [fX false ((ms.drop b).take (bB d.so))]) F (by omega) h (by rw [Ro,QM];omega);refine⟨R,ah ?_,Ap o⟩;have hl: [[T.ab 5 (gY false ((ms.drop b).take (bB d.so))).isEmpty (aH (gY false ((ms.drop b).take (bB d.so)))),ti (se ((ms.drop b).take (bB d.so))),ti 1,T.ab 2 true [],ti 0]]=cv [fX false ((ms.drop b).take (bB d.so))]:=rfl;cases c with
    | nil=>rw [show l8 ew ms []= [dI ew ms,ez,fz,ez] from rfl,uy];simp only [aK,aP,bA,bC,ba,fc,bU,bo,df,↓reduceIte,j,h0,and_self,cj,ei,cu,dF w,f,QE,u,s,q,k,v,l,e,next i (by omega),hl];exact z
    | cons a t=>rw [show l8 ew ms (a::t)= [dI ew ms,ez,fz,ad.box [ow 4],ad.sl false 5 false (cv (a::t))] from rfl,uz];simp only [aK,aP,bA,bC,ba,fc,bU,bo,df,↓reduceIte,j,h0,and_self,cj,ei,cu,dF w,f,QE,u,s,q,k,v,l,e,next i (by omega),QM,cC (show(a::t).length+1<=1000000 by omega),hl];rw [show cv (a::t)++cv [fX false ((ms.drop b).take (bB d.so))]=cv ((a::t)++ [fX false ((ms.drop b).take (bB d.so))]) by simp [cv]];exact z
open Go Go.Aev Go.IntKind
theorem Lc{q:Bool}{b:List Me}(i:∀m∈b,rC m)(hl:(fX q b).rs.length<=1000):ji (fX q b):=by
 refine⟨hl,by simp [fX,nu],λe f=>⟨?_,DT q _ (P:=λl=>l.length<=1000) b [] (λy h=>by cases h) (λm hm=>(i m hm).ok.al) e f⟩⟩;have:∀(r:List Me) (a:List En),(∀e∈a,e.to.cs= [])->∀e∈gX q (fW b) a r,e.to.cs= []:=by
  have g:∀(r a:List En),(∀e∈a,e.to.cs= [])->∀e∈eO q (fW b) a r,e.to.cs= []:=by
   intro r;induction r with
   | nil=>intro a h;exact h
   | cons x r d=>
    intro a h;rw [eO];split
    .exact d a h
    .refine d _ λy c=> ?_;rcases QR.1 c with c | c
     .exact h y c
     .simp only [QL] at c;subst c;rfl
  intro r;induction r with
  | nil=>intro a h;exact h
  | cons m r d=>intro a h;rw [gX];exact d _ (g m.rs a h)
 rw [this b [] (λy h=>by cases h) e f];exact RL _
theorem Af{q:Bool}{c:Me->Me}(i:∀m,dQ m->eU m->ji (c m)):∀{ds:List Dc} {ms l:List Me},mX ds ms->jK (fX q) c ds ms=some l->(∀x∈l,ji x)/\l.length=ds.length
 | [],ms,l,_,h=>by rw [jK] at h;simp only [Qy] at h;subst h;exact⟨λx h=>(by cases h),rfl⟩
 | d::ds,ms,l,a,h=>by
  rw [jK] at h;rw [mX] at a;split at h
  .rename_i j;rw [if_pos j] at a;split at h
   .cases h
   .rename_i hs;obtain⟨k,e,rfl⟩:=R2.1 h;obtain⟨f,g⟩:=Af i a.2.2 e;exact⟨λx b=>by
     rcases QN.1 b with rfl | b
     .exact Lc a.2.1 (by omega)
     .exact f x b,by rw [QJ,QJ,g]⟩
  .rename_i j;rw [if_neg j] at a;obtain⟨m,t,rfl,wf,ok,a⟩:=a;rw [RK,QD,Ss] at h;obtain⟨k,e,rfl⟩:=R2.1 h;obtain⟨f,g⟩:=Af i a e;exact⟨λx b=>by
    rcases QN.1 b with rfl | b
    .exact i m wf ok
    .exact f x b,by rw [QJ,QJ,g]⟩
def l4:List Dc->List Dc->Prop
 | [],D=>D= []
 | d::ds,D=>if aE d.so=true then(∃B a,D=B++a/\B.length=bB d.so/\(∀x∈B,x.so=1)/\l4 ds a) else(∃x a,D=x::a/\l4 ds a)
theorem AZ(p:ByteArray)(k:Nat)(d:Dc):∀(n b:Nat),∀x∈fG p k d b n,x.so=1
 | 0,_,x,h=>by cases h
 | n+1,b,x,h=>by
  rw [fG,QN] at h;rcases h with rfl | h
  .rfl
  .exact AZ p k d n (b+1) x h
theorem yg(p:ByteArray):∀(ds:List Dc) (k:Nat),l4 ds (cD p k ds)
 | [],_=>rfl
 | d::ds,k=>by
  rw [l4,cD];split
  .rename_i h;exact⟨_,_,rfl,tY _ _ _ _ _,AZ _ _ _ _ _,yg p ds (k+1)⟩
  .exact⟨d,_,rfl,yg p ds (k+1)⟩
theorem C6:∀(ds:List Dc),(∀d∈ds,aE d.so=false)->l4 ds ds
 | [],_=>rfl
 | d::ds,h=>by rw [l4,if_neg (by rw [h d QA];decide)];exact⟨d,ds,rfl,C6 ds λx a=>h x (QB _ a)⟩
theorem DJ{v:Va}(h:cY 1 v=true):v.n=0\/v.n=1:=by
 unfold cY at h;rw [if_neg (by decide)] at h;split at h
 .cases h
 .rw [if_pos rfl] at h;simpa using h
theorem Ag:∀(ds D:List Dc) (ms:List Me),l4 ds D->ms.length=D.length->(∀m∈ms,dQ m/\eU m)->(∀(j:Nat) (d:Dc) (m:Me),D[j]? =some d->ms[j]? =some m->eQ d m=0)->mX ds ms
 | [],D,ms,_,_,_,_=>trivial
 | d::ds,D,ms,a,hl,f,n=>by
  rw [l4] at a;rw [mX];split
  .rename_i h;rw [if_pos h] at a;obtain⟨B,g,rfl,r,q,a⟩:=a;rw [Ro] at hl;refine⟨by omega,λm hm=> ?_,Ag ds g (ms.drop (bB d.so)) a (by rw [RM];omega) (λm hm=>f m (SI hm)) (λj l m b hm=> ?_)⟩
   .obtain⟨j,i⟩:=RJ hm;rw [Sy] at i;split at i
    .rename_i s;have c:j < B.length:=by omega
     have b:(B++g)[j]? =some B[j]:=by rw [QT c,QK c]
     obtain⟨u,v,c3,p⟩:=Ev (n j _ m b i);have hs:=q _ (Su c);rw [hs] at c3 p;have k:=f m (Sp hm);exact⟨DJ c3,λe a=>DJ (p e a),k.2,k.1.ea⟩
    .cases i
   .rw [Sz] at hm;exact n (bB d.so+j) l m (by rw [<-r,Rg (by omega),Nat.add_sub_cancel_left];exact b) hm
  .rename_i h;rw [if_neg h] at a;obtain⟨x,g,rfl,a⟩:=a;cases ms with
   | nil=>simp at hl
   | cons m t=>exact⟨m,t,rfl,(f m QA).1,(f m QA).2,Ag ds g t a (by simpa using hl) (λy o=>f y (QB _ o)) (λj l y b o=>n (j+1) l y (by simpa using b) (by simpa using o))⟩
theorem H9(m:Me)(wf:dQ m)(ok:eU m):ji (dS m):=(LH wf ok).2
end Go.Aev.Gen
