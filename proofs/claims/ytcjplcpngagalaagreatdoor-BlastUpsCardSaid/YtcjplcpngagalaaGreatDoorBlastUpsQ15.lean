import Derived.Test.YtcjplcpngagalaaGreatDoorBlastUpsQ13
set_option linter.all false
namespace Go.Aev.Gen
open Go Go.Aev Go.IntKind
theorem ji{l:List Me}{i:Nat}{m:Me}(h:l[i]? =some m):(bF l)[i]? =some [mT m,ti m.re.n,ti m.re.d,cT m.re,ti m.re.r]:=by simp [bF,h]
def uy(a n:Int)(k:Nat):Int:=i64.wrap ((BitVec.ofInt 64 a ||| BitVec.ofInt 64 (i64.wrap (n * 2 ^ min k 64))).toNat:Int)
def sM(a n:Int)(k:Nat):Int:=i64.wrap (a+i64.wrap (n * 2 ^ min k 64))
theorem Dh{k:Nat}(a:k<=8):(2:Int) ^ k<=256/\(0:Int) < 2 ^ k:=by rcases(by omega:k=0\/k=1\/k=2\/k=3\/k=4\/k=5\/k=6\/k=7\/k=8) with rfl | rfl | rfl | rfl | rfl | rfl | rfl | rfl | rfl <;> decide
theorem C6{a n:Int}{k:Nat}(c: 0<=a/\a < 2 ^ k)(i:n=0\/n=1)(h:k<=8):uy a n k=a+n * 2 ^ k:=by
 have l:=Dh h;have hm:min k 64=k:=by omega
 obtain⟨x,rfl⟩:=Int.eq_ofNat_of_zero_le c.1;have d:x < 2 ^ k:=by have:=c.2;exact_mod_cast this
 have b:x < 2 ^ 64:=OM d (Nat.pow_le_pow_right (by decide) (by omega));have j:(x:Int) < 256:=by omega
 unfold uy;rw [hm];rcases i with rfl | rfl
 .rw [Int.zero_mul,wr (v:=0) (by omega)];have:BitVec.ofInt 64 (x:Int) ||| BitVec.ofInt 64 0=BitVec.ofNat 64 x:=by
   rw [show BitVec.ofInt 64 0=0#64 from rfl,BitVec.or_zero,Qu]
  rw [this,QA,Qj b,wr (by omega)];omega
 .rw [Int.one_mul,wr (v:=2 ^ k) (by omega)];have e: 2 ^ k < 2 ^ 64:=Nat.pow_lt_pow_right (by decide) (by omega);have f:BitVec.ofInt 64 ((2:Int) ^ k)=BitVec.ofNat 64 (2 ^ k):=by
   rw [show((2:Int) ^ k)= ((2 ^ k:Nat):Int) by simp,Qu]
  rw [f,Qu,BitVec.toNat_or,QA,QA,Qj b,Qj e];have g:x ||| 2 ^ k=x+2 ^ k:=by have:=Nat.two_pow_add_eq_or_of_lt d 1;rw [Nat.mul_one] at this;rw [Nat.or_comm,<-this];omega
  rw [g];have e3:(((x+2 ^ k:Nat)):Int)= (x:Int)+2 ^ k:=by simp
  rw [e3,wr (by omega)]
theorem yQ{a n:Int}{k:Nat}(d: 0<=a/\a < 2 ^ k)(c:n=0\/n=1)(b:k<=8):sM a n k=a+n * 2 ^ k:=by
 have e:=Dh b;have hm:min k 64=k:=by omega
 unfold sM;rw [hm];rcases c with rfl | rfl
 .rw [Int.zero_mul,wr (v:=0) (by omega),wr (by omega)]
 .rw [Int.one_mul,wr (v:=2 ^ k) (by omega),wr (by omega)]
theorem sR{a n:Int}{k:Nat}(c: 0<=a/\a < 2 ^ k)(b:n=0\/n=1): 0<=a+n * 2 ^ k/\a+n * 2 ^ k < 2 ^ (k+1):=by
 have:(2:Int) ^ (k+1)=2 ^ k * 2:=by rw [Int.pow_succ]
 rcases b with rfl | rfl <;> omega
theorem EO{k:Nat}(h:k<=1000):u64.wrap (k:Int)= (k:Int):=by
 have:∀v:Int,u64.wrap v=v % 18446744073709551616:=λv=>by simp [IntKind.wrap,IntKind.bits,IntKind.signed]
 rw [this];omega
def hY:Nat->List Int->Int
 | _,[]=>0
 | k,n::r=>n * 2 ^ k+hY (k+1) r
def jY:List En->Int->List Int->Int
 | [],d,_=>d
 | e::r,d,x=>if e.ar=x then e.to.n else jY r d x
def l8(m:Me)(x:List Int):Int:=jY m.rs m.re.n x
structure oz (m:Me):Prop where
 re:m.re.n=0\/m.re.n=1
 to:∀e∈m.rs,e.to.n=0\/e.to.n=1
 ok:gO m
 ea:∀e∈m.rs,e.ea=true->e.ar= []
theorem ED{d:Int}{x:List Int}(a:d=0\/d=1):∀{l:List En},(∀e∈l,e.to.n=0\/e.to.n=1)->jY l d x=0\/jY l d x=1
 | [],_=>a
 | e::r,h=>by
  rw [jY];split
  .exact h e NN
  .exact ED a λy b=>h y (NP _ b)
theorem EE{m:Me}(h:oz m)(x:List Int):l8 m x=0\/l8 m x=1:=ED h.re h.to
theorem Ki{m:Me}{ex:Bool}{x:List Int}(ok:gO m):∀(r:List En) (i:Nat),m.rs.drop i=r->
  Or sD [ab ex x,r0,AV.t (T.ab 5 m.er (aC m.rs)),I (m.rs.length:Int),I (i:Int)] [cO m]=some [ti (jY r m.re.n x)]:=by
 have:=ok.rl;intro r;induction r with
 | nil=>
  intro i g;have c:¬(i:Int) < (m.rs.length:Int):=by have:=bp g;omega
  refine ah ?_;rw [wA];simp only [an,↓reduceIte,Int.reduceBEq,Int.reduceEq,c,jY]
 | cons e r l=>
  intro i g;obtain⟨f,o,h⟩:=bq g;have c:(i:Int) < (m.rs.length:Int):=by omega
  have h0: 0<=(i:Int):=by omega
  have k:=uR (e:=e.ea) (e':=ex) (a:=e.ar) (b:=x) (ok.al e (NU f));have j:=l (i+1) h;rw [jY];by_cases d:e.ar=x
  .rw [decide_eq_true d] at k;rw [if_pos d];refine ah ?_;rw [wA];simp only [aG,aI,aR,aT,aL,aW,c,h0,and_self,bw,cW f,cq,k,aZ,bu,↓reduceIte]
  .rw [decide_eq_false d] at k;rw [if_neg d];refine ah ?_;rw [wA];simp only [aG,aI,aR,aT,aL,aW,c,h0,and_self,bw,cW f,cq,k,be,bu,↓reduceIte,next i (by omega)];exact j
theorem Mc{m:Me}{ex:Bool}{x:List Int}(ok:gO m):Or (.call 76) [MG m,ab ex x] []=some [ti (l8 m x)]:=by have a:=Ki (ex:=ex) (x:=x) ok m.rs 0 rfl;refine ah ?_;rw [Hq];simp only [bw];exact a
theorem J0{m:Me}{ex:Bool}{x:List Int}(ok:gO m):∀(r:List En) (i:Nat),m.rs.drop i=r->
  Or sA [ab ex x,r0,I (i:Int)] [cO m]=some [ti (jY r m.re.n x)]:=by
 have:=ok.rl;intro r;induction r with
 | nil=>
  intro i g;have c:¬(i:Int) < (m.rs.length:Int):=by have:=bp g;omega
  refine ah ?_;rw [wh];simp only [an,↓reduceIte,Int.reduceBEq,Int.reduceEq,bw,c,jY]
 | cons e r l=>
  intro i g;obtain⟨f,o,h⟩:=bq g;have c:(i:Int) < (m.rs.length:Int):=by omega
  have h0: 0<=(i:Int):=by omega
  have k:=yh (e:=e.ea) (e':=ex) (a:=e.ar) (b:=x) (ok.al e (NU f));have j:=l (i+1) h;rw [jY];by_cases d:e.ar=x
  .rw [decide_eq_true d] at k;rw [if_pos d];refine ah ?_;rw [wh];simp only [aG,aI,aR,bH,bK,aT,aL,aW,c,h0,and_self,bw,cW f,cq,k,aZ,bu,↓reduceIte]
  .rw [decide_eq_false d] at k;rw [if_neg d];refine ah ?_;rw [wh];simp only [aG,aI,aR,bH,bK,aT,aL,aW,c,h0,and_self,bw,cW f,cq,k,be,bu,↓reduceIte,next i (by omega)];exact j
theorem LK{m:Me}{ex:Bool}{x:List Int}(ok:gO m):Or (.call 39) [MG m,ab ex x] []=some [ti (l8 m x)]:=by have a:=J0 (ex:=ex) (x:=x) ok m.rs 0 rfl;refine ah ?_;rw [GC];exact a
def nu(q:Bool)(v:Int):Va:=⟨q,v,1,true,[],0⟩
def ej(q:Bool)(val:List Int->Int):List En->List En->List En
 | acc,[]=>acc
 | acc,e::r=>if(acc.any λx=>decide (x.ar=e.ar))=true then ej q val acc r else ej q val (acc++ [⟨e.ea,e.ar,nu q (val e.ar)⟩]) r
def fh(q:Bool)(val:List Int->Int):List En->List Me->List En
 | acc,[]=>acc
 | acc,m::r=>fh q val (ej q val acc m.rs) r
def eG(a:List Me)(x:List Int):Int:=hY 0 (a.map λm=>l8 m x)
def qP(a:List Me):Int:=hY 0 (a.map λm=>m.re.n)
def gV(q:Bool)(a:List Me):List En:=fh q (eG a) [] a
def dY(q:Bool)(a:List Me):Me:=⟨q && (gV q a).isEmpty,(gV q a).isEmpty,gV q a,nu q (qP a)⟩
theorem qR(q:Bool)(val:List Int->Int):∀(r acc:List En),(ej q val acc r).length<=acc.length+r.length/\acc.length<=(ej q val acc r).length
 | [],acc=>by simp [ej]
 | e::r,acc=>by
  rw [ej];split
  .have:=qR q val r acc;rw [NV];omega
  .have:=qR q val r (acc++ [⟨e.ea,e.ar,nu q (val e.ar)⟩]);rw [OB,NW] at this;rw [NV];omega
theorem Ci(q:Bool)(val:List Int->Int):∀(r:List Me) (acc:List En),(∀m∈r,m.rs.length<=1000)->(fh q val acc r).length<=acc.length+1000 * r.length
 | [],acc,_=>by simp [fh]
 | m::r,acc,h=>by have b:=Ci q val r (ej q val acc m.rs) λx a=>h x (NP _ a);have c:=qR q val m.rs acc;have d:=h m NN;rw [fh,NV];omega
theorem qQ(q:Bool)(val:List Int->Int){P:List Int->Prop}:∀(r acc:List En),(∀e∈acc,P e.ar)->(∀e∈r,P e.ar)->∀e∈ej q val acc r,P e.ar
 | [],acc,h,_=>h
 | e::r,acc,h,b=>by
  rw [ej];split
  .exact qQ q val r acc h λy a=>b y (NP _ a)
  .refine qQ q val r _ (λy a=> ?_) λy a=>b y (NP _ a);rcases N4.1 a with a | a
   .exact h y a
   .simp only [NY] at a;subst a;exact b e NN
theorem Cg(q:Bool)(val:List Int->Int){P:List Int->Prop}:∀(r:List Me) (acc:List En),(∀e∈acc,P e.ar)->(∀m∈r,∀e∈m.rs,P e.ar)->∀e∈fh q val acc r,P e.ar
 | [],acc,h,_=>h
 | m::r,acc,h,a=>by rw [fh];exact Cg q val r _ (qQ q val m.rs acc h (a m NN)) λx b=>a x (NP _ b)
abbrev z5:ad:=ad.box [AV.t (T.ae true),I 0,I 0,AV.t (T.ae true),I 0]
abbrev lS(k:Nat):ad:=ad.box [ow k,I 0,I 0,AV.t (T.ae true),I 0]
abbrev eB(e:En):ad:=ad.box [AV.t (T.ab 1 e.ea (enc e.ar)),I e.to.n,I e.to.d,AV.t (T.ab 2 e.to.ec (cz e.to.cs)),I e.to.r]
abbrev bT(e:Bool)(a:List Me):AV:=AV.t (T.ab 5 e (bF a))
def iI:List En->List ad
 | []=> [z5,z5]
 | a::t=> [z5,lS 2,ad.sl false 5 false (aC (a::t))]
def qu(e:En):List En->List ad
 | []=> [z5,z5,eB e]
 | a::t=> [z5,lS 3,eB e,ad.sl false 5 false (aC (a::t))]
structure la (bs:List Me):Prop where
 bl:bs.length<=8
 ok:∀m∈bs,oz m
theorem JZ{eb:Bool}{b:List Me}{m:Me}{e:En}{rest:Int}{i j:Nat}{acc:List En}{R:List T}(u:la b)(v:e.ea=true->e.ar= [])(J:e.ar.length<=1000)(L:j<=1000)(G:acc.length<=100000)
  (C:Or kk [bT eb b,r0,r1,I rest,bT eb b,I (b.length:Int),I (i:Int),AV.t (T.ab 5 m.er (aC m.rs)),I (m.rs.length:Int),I ((j+1:Nat):Int)] (iI (acc++ [⟨e.ea,e.ar,nu false (eG b e.ar)⟩]))=some R):∀(r:List Me) (k:Nat) (w:Int),b.drop k=r->k<=b.length->0<=w/\w < 2 ^ k->w+hY k (r.map λx=>l8 x e.ar)=eG b e.ar->
  Or nv [bT eb b,r0,r1,I rest,rf 2,I w,bT eb b,I (b.length:Int),I (i:Int),AV.t (T.ab 5 m.er (aC m.rs)),I (m.rs.length:Int),I (j:Int),bT eb b,I (b.length:Int),I (k:Int)] (qu e acc)=some R:=by
 have H:=u.bl;intro r;induction r with
 | nil=>
  intro k w g E q hs;have c:¬(k:Int) < (b.length:Int):=by have:=bp g;omega
  obtain⟨y,n,B⟩:=jU e.ea e.ar v (by omega);have h:Or (.call 24) [I w] []=some [ti w,ti 1,T.ae true,ti 0]:=by refine ah ?_;rw [Aa]
  rw [OV,hY,QH] at hs;have hl:∀l:List En,aC l++ [[T.ab 1 e.ea (enc e.ar),ti w,ti 1,T.ab 2 true [],ti 0]]=aC (l++ [⟨e.ea,e.ar,nu false (eG b e.ar)⟩]):=λl=>by rw [<-wR,hs];rfl
  have z: [[T.ab 1 e.ea (enc e.ar),ti w,ti 1,T.ab 2 true [],ti 0]]=aC [⟨e.ea,e.ar,nu false (eG b e.ar)⟩]:=by rw [hs];rfl
  refine ah ?_;cases acc with
  | nil=>rw [show qu e []= [z5,z5,eB e] from rfl,AH];simp only [an,↓reduceIte,Int.reduceBEq,Int.reduceEq,c,n,B,h,next j (by omega),z];exact C
  | cons a t=>rw [show qu e (a::t)= [z5,lS 3,eB e,ad.sl false 5 false (aC (a::t))] from rfl,AI];simp only [an,↓reduceIte,Int.reduceBEq,Int.reduceEq,c,n,B,h,next j (by omega),bw,NW,cE (show(a::t).length+1<=1000000 by omega)];rw [hl];exact C
 | cons x r F=>
  intro k w g E q hs;obtain⟨p,K,D⟩:=bq g;have hm:=u.ok x (NU p);have c:(k:Int) < (b.length:Int):=by omega
  have h0: 0<=(k:Int):=by omega
  have s:¬(k:Int) < 0:=by omega
  have o:=Mc (ex:=e.ea) (x:=e.ar) hm.ok;have d:=EE hm e.ar;have f:=C6 q d (show k<=8 by omega);have A:=F (k+1) (w+l8 x e.ar * 2 ^ k) D (by omega) (sR q d) (by rw [Oq,hY] at hs;rw [<-hs];omega);unfold uy at f;refine ah ?_;cases acc with
  | nil=>rw [show qu e []= [z5,z5,eB e] from rfl,AH];simp only [an,↓reduceIte,Int.reduceBEq,Int.reduceEq,c,h0,s,and_self,dx,ji p,fH,cq,o,Oa,f,next k (by omega)];exact A
  | cons a t=>rw [show qu e (a::t)= [z5,lS 3,eB e,ad.sl false 5 false (aC (a::t))] from rfl,AI];simp only [an,↓reduceIte,Int.reduceBEq,Int.reduceEq,c,h0,s,and_self,dx,ji p,fH,cq,o,Oa,f,next k (by omega)];exact A
theorem JY{eb:Bool}{f:List Me}{m:Me}{rest:Int}{i:Nat}{R:List T}(B:la f)(hm:oz m)(D:i<=8):∀(r:List En) (j:Nat) (acc:List En),m.rs.drop j=r->acc.length+r.length<=100000->(∀x∈acc,x.ar.length<=1000)->
  Or nw [bT eb f,r0,r1,I rest,bT eb f,I (f.length:Int),I ((i+1:Nat):Int)] (iI (ej false (eG f) acc r))=some R->
  Or kk [bT eb f,r0,r1,I rest,bT eb f,I (f.length:Int),I (i:Int),AV.t (T.ab 5 m.er (aC m.rs)),I (m.rs.length:Int),I (j:Int)] (iI acc)=some R:=by
 have:=hm.ok.rl;intro r;induction r with
 | nil=>
  intro j acc g s b l;have o:¬(j:Int) < (m.rs.length:Int):=by have:=bp g;omega
  rw [ej] at l;refine ah ?_;cases acc with
  | nil=>rw [show iI []= [z5,z5] from rfl,AL];simp only [an,↓reduceIte,Int.reduceBEq,Int.reduceEq,o,next i (by omega)];exact l
  | cons a t=>rw [show iI (a::t)= [z5,lS 2,ad.sl false 5 false (aC (a::t))] from rfl,wg];simp only [an,↓reduceIte,Int.reduceBEq,Int.reduceEq,o,next i (by omega)];exact l
 | cons e r A=>
  intro j acc g s b l;obtain⟨q,C,w⟩:=bq g;have u:=NU q;have o:(j:Int) < (m.rs.length:Int):=by omega
  have h0: 0<=(j:Int):=by omega
  rw [NV] at s;rw [ej] at l;by_cases p:(acc.any λx=>decide (x.ar=e.ar))=true
  .rw [if_pos p] at l;have v:=A (j+1) acc w (by omega) b l;refine ah ?_;cases acc with
   | nil=>cases p
   | cons a t=>have c:=yl (er:=false) (rs:=a::t) (y:=e) (by omega) (λx k=>D8 (b x k));rw [p] at c;rw [show iI (a::t)= [z5,lS 2,ad.sl false 5 false (aC (a::t))] from rfl,wg];simp only [aG,aI,aR,aT,aL,aW,aZ,bu,↓reduceIte,o,h0,and_self,bw,cW q,cq,c,next j (by omega)];exact v
  .rw [if_neg p] at l;rw [Ps] at p;have v:=A (j+1) (acc++ [⟨e.ea,e.ar,nu false (eG f e.ar)⟩]) w (by rw [OB,NW];omega) (λx k=>by
    rcases N4.1 k with k | k
    .exact b x k
    .simp only [NY] at k;subst k;exact hm.ok.al e u) l
   have z:=JZ (eb:=eb) (m:=m) (rest:=rest) (i:=i) (j:=j) B (hm.ea e u) (hm.ok.al e u) (by omega) (by omega) v f 0 0 rfl (OT _) (by decide) (by rw [Qv];rfl);refine ah ?_;cases acc with
   | nil=>have c:Or (.call 45) [AV.t (T.ab 5 true []),AV.fn 75 [] [AV.t (T.ptr [T.ab 1 e.ea (enc e.ar),ti e.to.n,ti e.to.d,T.ab 2 e.to.ec (cz e.to.cs),ti e.to.r])]] []=some [tb false]:=yl (er:=true) (rs:= []) (y:=e) (by simp) (λx h=>by cases h);rw [show iI []= [z5,z5] from rfl,AL];simp only [aG,aI,aR,aT,aL,aW,be,bu,↓reduceIte,o,h0,and_self,bw,dx,cW q,cq,c];exact z
   | cons a t=>have c:=yl (er:=false) (rs:=a::t) (y:=e) (by omega) (λx k=>D8 (b x k));rw [p] at c;rw [show iI (a::t)= [z5,lS 2,ad.sl false 5 false (aC (a::t))] from rfl,wg];simp only [aG,aI,aR,aT,aL,aW,be,bu,↓reduceIte,o,h0,and_self,bw,dx,cW q,cq,c];exact z
theorem JX{eb:Bool}{b:List Me}(k:la b):∀(r:List Me) (i:Nat) (rest:Int) (acc:List En),b.drop i=r->i<=b.length->0<=rest/\rest < 2 ^ i->acc.length+1000 * r.length<=100000->(∀x∈acc,x.ar.length<=1000)->
  ∃x,Or nw [bT eb b,r0,r1,I rest,bT eb b,I (b.length:Int),I (i:Int)] (iI acc)=some [x,ti (rest+hY i (r.map λm=>m.re.n)),ti 1,T.ab 2 true [],ti 0]/\x.ak 5=some ((fh false (eG b) acc r).isEmpty,aC (fh false (eG b) acc r)):=by
 have z:=k.bl;intro r;induction r with
 | nil=>
  intro i rest acc g w o f c;have d:¬(i:Int) < (b.length:Int):=by have:=bp g;omega
  have h:Or (.call 24) [I rest] []=some [ti rest,ti 1,T.ae true,ti 0]:=by refine ah ?_;rw [Aa]
  rw [OV,hY,QH,fh];cases acc with
  | nil=>refine⟨T.ae true,ah ?_,rfl⟩;rw [show iI []= [z5,z5] from rfl,AJ];simp only [an,↓reduceIte,Int.reduceBEq,Int.reduceEq,d,h]
  | cons a t=>refine⟨T.ab 5 false (aC (a::t)),ah ?_,by rw [aW];rfl⟩;rw [show iI (a::t)= [z5,lS 2,ad.sl false 5 false (aC (a::t))] from rfl,AK];simp only [an,↓reduceIte,Int.reduceBEq,Int.reduceEq,d,h]
 | cons m r y=>
  intro i rest acc g w o f c;obtain⟨j,B,v⟩:=bq g;have hm:=k.ok m (NU j);have d:(i:Int) < (b.length:Int):=by omega
  have h0: 0<=(i:Int):=by omega
  have p:¬(i:Int) < 0:=by omega
  have e:=C6 o hm.re (show i<=8 by omega);have hrl:=hm.ok.rl;have A:=(qR false (eG b) m.rs acc).1;rw [NV] at f;obtain⟨x,s,u⟩:=y (i+1) (rest+m.re.n * 2 ^ i) (ej false (eG b) acc m.rs) v (by omega) (sR o hm.re) (by omega) (qQ false (eG b) (P:=λl=>l.length<=1000) m.rs acc c hm.ok.al);refine⟨x, ?_,by rw [fh];exact u⟩;rw [Oq,hY,<-Int.add_assoc];have q:=JY (eb:=eb) (rest:=rest+m.re.n * 2 ^ i) k hm (show i<=8 by omega) m.rs 0 acc rfl (by omega) c s;unfold uy at e;refine ah ?_;cases acc with
  | nil=>rw [show iI []= [z5,z5] from rfl,AJ];simp only [an,↓reduceIte,Int.reduceBEq,Int.reduceEq,d,h0,p,and_self,dx,bw,ji j,fH,cq,Oa,e];exact q
  | cons a t=>rw [show iI (a::t)= [z5,lS 2,ad.sl false 5 false (aC (a::t))] from rfl,AK];simp only [an,↓reduceIte,Int.reduceBEq,Int.reduceEq,d,h0,p,and_self,dx,bw,ji j,fH,cq,Oa,e];exact q
theorem LJ{eb:Bool}{a:List Me}(c:la a):∃x,Or (.call 38) [bT eb a] []=some [x,ti (qP a),ti 1,T.ab 2 true [],ti 0]/\x.ak 5=some ((gV false a).isEmpty,aC (gV false a)):=by have e:=c.bl;obtain⟨x,b,d⟩:=JX (eb:=eb) c a 0 0 [] rfl (OT _) (by decide) (by simp;omega) (λx h=>by cases h);rw [Qv] at b;refine⟨x,ah ?_,d⟩;rw [GB];simp only [dx];exact b
def hP(j:List Me->Me)(c:Me->Me):List Dc->List Me->Option (List Me)
 | [],_=>some []
 | d::ds,ms=>if aJ d.so=true then(if 1000 < (j (ms.take (bL d.so))).rs.length then none else(hP j c ds (ms.drop (bL d.so))).map (j (ms.take (bL d.so))::·))
  else(ms.head?).bind λm=>(hP j c ds ms.tail).map (c m::·)
def ko:List Dc->List Me->Prop
 | [],_=>True
 | d::ds,ms=>if aJ d.so=true then(bL d.so<=ms.length/\(∀m∈ms.take (bL d.so),oz m)/\ko ds (ms.drop (bL d.so)))
  else(∃m t,ms=m::t/\fJ m/\gO m/\ko ds t)
abbrev rZ:=hP (dY false) kA
def lr(ew:Bool)(ms:List Me):List Me->List ad
 | []=> [bC ew ms,ez,fz,ez]
 | a::t=> [bC ew ms,ez,fz,ad.box [ow 4],ad.sl false 5 false (bF (a::t))]
def vu(acc:List Me):Option (List Me)->List T->Prop
 | none,r=>r= [T.ae true,ti 10,ti 0]
 | some l,r=>∃x,r= [x,ti 0,ti 0]/\x.ak 5=some ((acc++l).isEmpty,bF (acc++l))
theorem yP{acc:List Me}{m:Me}{o:Option (List Me)}{r:List T}(h:vu (acc++ [m]) o r):vu acc (o.map (m::·)) r:=by
 cases o with
 | none=>exact h
 | some l=>obtain⟨x,b,a⟩:=h;exact⟨x,b,by rw [Og] at a;exact a⟩
theorem Js{ed ew:Bool}{ds:List Dc}{ms:List Me}(Q:ds.length<=100)(U:ms.length<=1000):∀(r:List Dc) (i b:Nat) (acc:List Me),ds.drop i=r->b<=ms.length->ko r (ms.drop b)->acc.length+r.length<=1000->
  ∃R,Or mf [rf 0,rf 1,rf 2,rf 3,I (b:Int),AV.t (T.ab 3 ed (aM ds)),I (ds.length:Int),I (i:Int)] (lr ew ms acc)=some R/\vu acc (rZ r (ms.drop b)) R:=by
 intro r;induction r with
 | nil=>
  intro i b acc g H f B;have h:¬(i:Int) < (ds.length:Int):=by have:=bp g;omega
  cases acc with
  | nil=>refine⟨[T.ae true,ti 0,ti 0],ah ?_,⟨T.ae true,rfl,rfl⟩⟩;rw [show lr ew ms []= [bC ew ms,ez,fz,ez] from rfl,te];simp only [an,↓reduceIte,Int.reduceBEq,Int.reduceEq,h]
  | cons a t=>refine⟨[T.ab 5 false (bF (a::t)),ti 0,ti 0],ah ?_,⟨_,rfl,by rw [aW,Oj];rfl⟩⟩;rw [show lr ew ms (a::t)= [bC ew ms,ez,fz,ad.box [ow 4],ad.sl false 5 false (bF (a::t))] from rfl,tf];simp only [an,↓reduceIte,Int.reduceBEq,Int.reduceEq,h]
 | cons d r M=>
  intro i b acc g H f B;obtain⟨v,W,E⟩:=bq g;have h:(i:Int) < (ds.length:Int):=by omega
  have h0: 0<=(i:Int):=by omega
  have e:=gg d.so;rw [NV] at B;rw [ko] at f;rw [show rZ (d::r) (ms.drop b)=hP (dY false) kA (d::r) (ms.drop b) from rfl,hP];cases A:aJ d.so with
  | false=>
   rw [A,if_neg (by decide)] at f;obtain⟨m,t,C,wf,ok,f⟩:=f;obtain⟨N,Z,O⟩:=bq C;rw [if_neg (by decide),C,OP,NO,Pw];rw [A] at e;obtain⟨x,y,D,k,L⟩:=Lp wf ok;have F:(b:Int) < (ms.length:Int):=by omega
   have G: 0<=(b:Int):=by omega
   obtain⟨R,w,l⟩:=M (i+1) (b+1) (acc++ [kA m]) E (by omega) (by rw [O];exact f) (by rw [OB,NW];omega);rw [O] at l;refine⟨R,ah ?_,yP l⟩;have hl: [[T.ab 5 m.rs.isEmpty (aC (m.rs.map nE)),ti m.re.n,ti m.re.d,T.ab 2 m.re.ec (cz m.re.cs),ti m.re.r]]= [[mT (kA m),ti (kA m).re.n,ti (kA m).re.d,cT (kA m).re,ti (kA m).re.r]]:=rfl;cases acc with
   | nil=>rw [show lr ew ms []= [bC ew ms,ez,fz,ez] from rfl,te];simp only [aG,aI,aR,bH,bK,bZ,aT,aL,bD,aW,aZ,bu,↓reduceIte,h,h0,F,G,and_self,cj,dx,dh v,my N,fH,cq,e,D,k,L,NS,next i (by omega),next b (by omega),hl];exact w
   | cons a t=>rw [show lr ew ms (a::t)= [bC ew ms,ez,fz,ad.box [ow 4],ad.sl false 5 false (bF (a::t))] from rfl,tf];simp only [aG,aI,aR,bH,bK,bZ,aT,aL,bD,aW,aZ,bu,↓reduceIte,h,h0,F,G,and_self,cj,dx,dh v,my N,fH,cq,e,D,k,L,NS,next i (by omega),next b (by omega),NW,cE (show(a::t).length+1<=1000000 by omega),hl,tA];exact w
  | true=>
   rw [A,if_pos rfl] at f;obtain⟨P,o,f⟩:=f;rw [if_pos rfl];rw [A] at e;have Y:=tT.1 A;have V:bL d.so<=8/\1<=bL d.so:=by unfold bL;omega
   have s:i64.wrap (d.so - 10)= ((bL d.so:Nat):Int):=by rw [wr (by omega)];unfold bL;omega
   rw [ON] at P;have q:i64.wrap ((b:Int)+ ((bL d.so:Nat):Int))= ((b+bL d.so:Nat):Int):=by rw [wr (by omega)];omega
   have p:eO (b:Int) ((b+bL d.so:Nat):Int) (ms.length:Int)=some ():=by unfold eO;rw [if_pos ⟨by omega,by omega,by omega⟩]
   have j:sub (b:Int) ((b+bL d.so:Nat):Int) (bF ms)=bF ((ms.drop b).take (bL d.so)):=by unfold sub;rw [Oa,Oa,Nat.add_sub_cancel_left];simp [bF]
   have J:la ((ms.drop b).take (bL d.so)):=⟨by rw [OG];omega,o⟩;obtain⟨x,u,k⟩:=LJ (eb:=ew) J;have K:∀m∈(ms.drop b).take (bL d.so),m.rs.length<=1000:=λm hm=>(o m hm).ok.rl;have S:(gV false ((ms.drop b).take (bL d.so))).length<=8000:=by have:=Ci false (eG ((ms.drop b).take (bL d.so))) ((ms.drop b).take (bL d.so)) [] K;have X:=J.bl;unfold gV;simp only [N7] at this;omega
   by_cases z: 1000 < (gV false ((ms.drop b).take (bL d.so))).length
   .have c:((gV false ((ms.drop b).take (bL d.so))).length:Int) > 1000:=by omega
    rw [if_pos (show 1000 < (dY false ((ms.drop b).take (bL d.so))).rs.length from z)];refine⟨[T.ae true,ti 10,ti 0],ah ?_,rfl⟩;cases acc with
    | nil=>rw [show lr ew ms []= [bC ew ms,ez,fz,ez] from rfl,te];simp only [aG,aI,aR,bH,bK,bZ,aT,aL,bD,aW,be,bu,↓reduceIte,h,h0,and_self,cj,dx,bw,dh v,e,NR,s,q,p,j,u,k,c]
    | cons a t=>rw [show lr ew ms (a::t)= [bC ew ms,ez,fz,ad.box [ow 4],ad.sl false 5 false (bF (a::t))] from rfl,tf];simp only [aG,aI,aR,bH,bK,bZ,aT,aL,bD,aW,be,bu,↓reduceIte,h,h0,and_self,cj,dx,bw,dh v,e,NR,s,q,p,j,u,k,c]
   .have c:¬((gV false ((ms.drop b).take (bL d.so))).length:Int) > 1000:=by omega
    rw [if_neg (show ¬1000 < (dY false ((ms.drop b).take (bL d.so))).rs.length from z)];rw [P3] at f⊢;obtain⟨R,w,l⟩:=M (i+1) (b+bL d.so) (acc++ [dY false ((ms.drop b).take (bL d.so))]) E (by omega) f (by rw [OB,NW];omega);refine⟨R,ah ?_,yP l⟩;have hl: [[T.ab 5 (gV false ((ms.drop b).take (bL d.so))).isEmpty (aC (gV false ((ms.drop b).take (bL d.so)))),ti (qP ((ms.drop b).take (bL d.so))),ti 1,T.ab 2 true [],ti 0]]=bF [dY false ((ms.drop b).take (bL d.so))]:=rfl;cases acc with
    | nil=>rw [show lr ew ms []= [bC ew ms,ez,fz,ez] from rfl,te];simp only [aG,aI,aR,bH,bK,bZ,aT,aL,bD,aW,be,bu,↓reduceIte,h,h0,and_self,cj,dx,bw,dh v,e,NR,s,q,p,j,u,k,c,next i (by omega),hl];exact w
    | cons a t=>rw [show lr ew ms (a::t)= [bC ew ms,ez,fz,ad.box [ow 4],ad.sl false 5 false (bF (a::t))] from rfl,tf];simp only [aG,aI,aR,bH,bK,bZ,aT,aL,bD,aW,be,bu,↓reduceIte,h,h0,and_self,cj,dx,bw,dh v,e,NR,s,q,p,j,u,k,c,next i (by omega),NW,cE (show(a::t).length+1<=1000000 by omega),hl];rw [show bF (a::t)++bF [dY false ((ms.drop b).take (bL d.so))]=bF ((a::t)++ [dY false ((ms.drop b).take (bL d.so))]) by simp [bF]];exact w
open Go Go.Aev Go.IntKind
abbrev Xb(x:Int):ad:=ad.box [AV.t (T.ae true),I x,I 1,AV.t (T.ae true),I 0]
abbrev Xo(k:Nat)(x:Int):ad:=ad.box [ow k,I x,I 1,AV.t (T.ae true),I 0]
def mq(a:As)(ew:Bool)(ms:List Me):List Me->List ad
 | []=> [ca a,bC ew ms,ez,ez]
 | y::t=> [ca a,bC ew ms,ez,ad.box [ow 4],ad.sl false 5 false (bF (y::t))]
def jD(a:As)(ew:Bool)(ms:List Me)(x:Int):List Me->List En->List ad
 | [],[]=> [ca a,bC ew ms,ez,ez,Xb x]
 | y::t,[]=> [ca a,bC ew ms,ez,ad.box [ow 5],Xb x,ad.sl false 5 false (bF (y::t))]
 | [],r::u=> [ca a,bC ew ms,ez,ez,Xo 5 x,ad.sl false 5 false (aC (r::u))]
 | y::t,r::u=> [ca a,bC ew ms,ez,ad.box [ow 5],Xo 6 x,ad.sl false 5 false (bF (y::t)),ad.sl false 5 false (aC (r::u))]
def cQ(a:As)(ew:Bool)(ms:List Me)(x:Int)(m:Me):List Me->List En->List ad
 | [],[]=> [ca a,bC ew ms,ez,ez,Xb x,cO m]
 | y::t,[]=> [ca a,bC ew ms,ez,ad.box [ow 6],Xb x,cO m,ad.sl false 5 false (bF (y::t))]
 | [],r::u=> [ca a,bC ew ms,ez,ez,Xo 6 x,cO m,ad.sl false 5 false (aC (r::u))]
 | y::t,r::u=> [ca a,bC ew ms,ez,ad.box [ow 6],Xo 7 x,cO m,ad.sl false 5 false (bF (y::t)),ad.sl false 5 false (aC (r::u))]
theorem tv{l:List En}{i:Nat}{e:En}(h:l[i]? =some e):(aC l)[i]? =some [T.ab 1 e.ea (enc e.ar),ti e.to.n,ti e.to.d,cT e.to,ti e.to.r]:=by simp [aC,h]
theorem EB{ms:List Me}{a n c:Nat}{y:Me}(h:((ms.drop a).take n)[c]? =some y):ms[a+c]? =some y/\c < n:=by
 rw [PK] at h;split at h
 .rename_i b;rw [Pu] at h;exact⟨h,b⟩
 .cases h
theorem Ju{a:As}{ew:Bool}{ms acc:List Me}{m:Me}{e:En}{d k n b i:Nat}{x:Int}{rows:List En}{R:List T}(L:la ((ms.drop d).take n))(M:((ms.drop d).take n).length=n)(U:ms.length<=1000)(h:m.rs[i]? =some e)(W:i<=1000)(hrl:rows.length<=100000)
  (G:Or fx [rf 0,rf 1,rf 2,rf 3,I (d:Int),I (k:Int),I (n:Int),rf 4,I (b:Int),rf 5,I ((i+1:Nat):Int)] (cQ a ew ms x m acc (rows++ [⟨e.ea,e.ar,nu true (eG ((ms.drop d).take n) e.ar)⟩]))=some R):∀(r:List Me) (c:Nat) (v:Int),((ms.drop d).take n).drop c=r->c<=n->0<=v/\v < 2 ^ c->v+hY c (r.map λy=>l8 y e.ar)=eG ((ms.drop d).take n) e.ar->
  Or ig [rf 0,rf 1,rf 2,rf 3,I (d:Int),I (k:Int),I (n:Int),rf 4,I (b:Int),rf 5,I (i:Int),I v,I (c:Int)] (cQ a ew ms x m acc rows)=some R:=by
 have N:=L.bl;rw [M] at N;have o:(i:Int) < (m.rs.length:Int):=by have:=(NQ.1 h).1;omega
 have j: 0<=(i:Int):=by omega
 intro r;induction r with
 | nil=>
  intro c v g Q J hs;have p:¬(c:Int) < (n:Int):=by have:=bp g;omega
  rw [OV,hY,QH] at hs;have hl:∀l:List En,aC l++ [[T.ab 1 e.ea (enc e.ar),ti v,ti 1,T.ae true,ti 0]]=aC (l++ [⟨e.ea,e.ar,nu true (eG ((ms.drop d).take n) e.ar)⟩]):=λl=>by rw [<-wR,hs];rfl
  have H: [[T.ab 1 e.ea (enc e.ar),ti v,ti 1,T.ae true,ti 0]]=aC [⟨e.ea,e.ar,nu true (eG ((ms.drop d).take n) e.ar)⟩]:=by rw [hs];rfl
  refine ah ?_;cases acc with
  | nil=>
   cases rows with
   | nil=>rw [show cQ a ew ms x m [] []= [ca a,bC ew ms,ez,ez,Xb x,cO m] from rfl,zV];simp only [aG,aI,aR,bH,bK,bZ,aT,aL,bD,aW,bu,↓reduceIte,p,o,j,and_self,bw,cW h,cq,next i (by omega),H];exact G
   | cons f u=>rw [show cQ a ew ms x m [] (f::u)= [ca a,bC ew ms,ez,ez,Xo 6 x,cO m,ad.sl false 5 false (aC (f::u))] from rfl,zX];simp only [aG,aI,aR,bH,bK,bZ,aT,aL,bD,aW,bu,↓reduceIte,p,o,j,and_self,bw,cW h,cq,NW,cE (show(f::u).length+1<=1000000 by omega),next i (by omega)];rw [hl];exact G
  | cons y t=>
   cases rows with
   | nil=>rw [show cQ a ew ms x m (y::t) []= [ca a,bC ew ms,ez,ad.box [ow 6],Xb x,cO m,ad.sl false 5 false (bF (y::t))] from rfl,zW];simp only [aG,aI,aR,bH,bK,bZ,aT,aL,bD,aW,bu,↓reduceIte,p,o,j,and_self,bw,cW h,cq,next i (by omega),H];exact G
   | cons f u=>rw [show cQ a ew ms x m (y::t) (f::u)= [ca a,bC ew ms,ez,ad.box [ow 6],Xo 7 x,cO m,ad.sl false 5 false (bF (y::t)),ad.sl false 5 false (aC (f::u))] from rfl,zY];simp only [aG,aI,aR,bH,bK,bZ,aT,aL,bD,aW,bu,↓reduceIte,p,o,j,and_self,bw,cW h,cq,NW,cE (show(f::u).length+1<=1000000 by omega),next i (by omega)];rw [hl];exact G
 | cons O r S=>
  intro c v g Q J hs;obtain⟨K,V,P⟩:=bq g;obtain⟨z,X⟩:=EB K;have hm:=L.ok O (NU K);have p:(c:Int) < (n:Int):=by omega
  have C:¬(c:Int) < 0:=by omega
  have Y:=(NQ.1 z).1;have F:i64.wrap ((d:Int)+ (c:Int))= ((d+c:Nat):Int):=by rw [wr (by omega)];omega
  have A:((d+c:Nat):Int) < (ms.length:Int):=by omega
  have B: 0<=((d+c:Nat):Int):=by omega
  have s:=LK (ex:=e.ea) (x:=e.ar) hm.ok;have w:=EE hm e.ar;have q:=yQ J w (show c<=8 by omega);have E:=EO (show c<=1000 by omega);have D:=S (c+1) (v+l8 O e.ar * 2 ^ c) P (by omega) (sR J w) (by rw [Oq,hY] at hs;rw [<-hs];omega);unfold sM at q;refine ah ?_;cases acc with
  | nil=>
   cases rows with
   | nil=>rw [show cQ a ew ms x m [] []= [ca a,bC ew ms,ez,ez,Xb x,cO m] from rfl,zV];simp only [aG,aI,aR,bH,bK,bZ,aT,aL,bD,aW,bu,↓reduceIte,p,C,F,A,B,o,j,and_self,dx,bw,ji z,cW h,fH,cq,s,E,Oa,tv h,q,next c (by omega)];exact D
   | cons f u=>rw [show cQ a ew ms x m [] (f::u)= [ca a,bC ew ms,ez,ez,Xo 6 x,cO m,ad.sl false 5 false (aC (f::u))] from rfl,zX];simp only [aG,aI,aR,bH,bK,bZ,aT,aL,bD,aW,bu,↓reduceIte,p,C,F,A,B,o,j,and_self,dx,bw,ji z,cW h,fH,cq,s,E,Oa,tv h,q,next c (by omega)];exact D
  | cons y t=>
   cases rows with
   | nil=>rw [show cQ a ew ms x m (y::t) []= [ca a,bC ew ms,ez,ad.box [ow 6],Xb x,cO m,ad.sl false 5 false (bF (y::t))] from rfl,zW];simp only [aG,aI,aR,bH,bK,bZ,aT,aL,bD,aW,bu,↓reduceIte,p,C,F,A,B,o,j,and_self,dx,bw,ji z,cW h,fH,cq,s,E,Oa,tv h,q,next c (by omega)];exact D
   | cons f u=>rw [show cQ a ew ms x m (y::t) (f::u)= [ca a,bC ew ms,ez,ad.box [ow 6],Xo 7 x,cO m,ad.sl false 5 false (bF (y::t)),ad.sl false 5 false (aC (f::u))] from rfl,zY];simp only [aG,aI,aR,bH,bK,bZ,aT,aL,bD,aW,bu,↓reduceIte,p,C,F,A,B,o,j,and_self,dx,bw,ji z,cW h,fH,cq,s,E,Oa,tv h,q,next c (by omega)];exact D
theorem Jv{a:As}{ew:Bool}{ms acc:List Me}{m:Me}{e:En}{q k n b i:Nat}{x:Int}{rows:List En}{R:List T}(C:m.rs[i]? =some e)(G:i<=1000)(hrl:rows.length<=100000)(A:∀y∈rows,y.ar.length<=1000)
  (f:(rows.any λy=>decide (y.ar=e.ar))=true->Or fx [rf 0,rf 1,rf 2,rf 3,I (q:Int),I (k:Int),I (n:Int),rf 4,I (b:Int),rf 5,I ((i+1:Nat):Int)] (cQ a ew ms x m acc rows)=some R)
  (h:(rows.any λy=>decide (y.ar=e.ar))=false->Or ig [rf 0,rf 1,rf 2,rf 3,I (q:Int),I (k:Int),I (n:Int),rf 4,I (b:Int),rf 5,I (i:Int),I 0,I 0] (cQ a ew ms x m acc rows)=some R):∀(r:List En) (j:Nat) (d:Bool),rows.drop j=r->(d || r.any λy=>decide (y.ar=e.ar))= (rows.any λy=>decide (y.ar=e.ar))->
  Or ic [rf 0,rf 1,rf 2,rf 3,I (q:Int),I (k:Int),I (n:Int),rf 4,I (b:Int),rf 5,I (i:Int),B d,I (j:Int)] (cQ a ew ms x m acc rows)=some R:=by
 have v:(i:Int) < (m.rs.length:Int):=by have:=(NQ.1 C).1;omega
 have s: 0<=(i:Int):=by omega
 intro r;induction r with
 | nil=>
  intro j d g hs;have l:¬(j:Int) < (rows.length:Int):=by have:=bp g;omega
  rw [List.any_nil,Bool.or_false] at hs;rw [<-hs] at f h;refine ah ?_;cases d with
  | true=>
   replace f:=f rfl;cases acc with
   | nil=>
    cases rows with
    | nil=>rw [show cQ a ew ms x m [] []= [ca a,bC ew ms,ez,ez,Xb x,cO m] from rfl,zT];simp only [aG,aI,aR,bH,bK,bZ,aT,aL,bD,aW,bu,↓reduceIte,(show ¬(j:Int) < ((0:Nat):Int) by omega),bw,aZ,next i (by omega)];exact f
    | cons c u=>rw [show cQ a ew ms x m [] (c::u)= [ca a,bC ew ms,ez,ez,Xo 6 x,cO m,ad.sl false 5 false (aC (c::u))] from rfl,tg];simp only [aG,aI,aR,bH,bK,bZ,aT,aL,bD,aW,bu,↓reduceIte,l,bw,aZ,next i (by omega)];exact f
   | cons y t=>
    cases rows with
    | nil=>rw [show cQ a ew ms x m (y::t) []= [ca a,bC ew ms,ez,ad.box [ow 6],Xb x,cO m,ad.sl false 5 false (bF (y::t))] from rfl,zU];simp only [aG,aI,aR,bH,bK,bZ,aT,aL,bD,aW,bu,↓reduceIte,(show ¬(j:Int) < ((0:Nat):Int) by omega),bw,aZ,next i (by omega)];exact f
    | cons c u=>rw [show cQ a ew ms x m (y::t) (c::u)= [ca a,bC ew ms,ez,ad.box [ow 6],Xo 7 x,cO m,ad.sl false 5 false (bF (y::t)),ad.sl false 5 false (aC (c::u))] from rfl,th];simp only [aG,aI,aR,bH,bK,bZ,aT,aL,bD,aW,bu,↓reduceIte,l,bw,aZ,next i (by omega)];exact f
  | false=>
   replace h:=h rfl;cases acc with
   | nil=>
    cases rows with
    | nil=>rw [show cQ a ew ms x m [] []= [ca a,bC ew ms,ez,ez,Xb x,cO m] from rfl,zT];simp only [aG,aI,aR,bH,bK,bZ,aT,aL,bD,aW,bu,↓reduceIte,(show ¬(j:Int) < ((0:Nat):Int) by omega),bw,be];exact h
    | cons c u=>rw [show cQ a ew ms x m [] (c::u)= [ca a,bC ew ms,ez,ez,Xo 6 x,cO m,ad.sl false 5 false (aC (c::u))] from rfl,tg];simp only [aG,aI,aR,bH,bK,bZ,aT,aL,bD,aW,bu,↓reduceIte,l,bw,be];exact h
   | cons y t=>
    cases rows with
    | nil=>rw [show cQ a ew ms x m (y::t) []= [ca a,bC ew ms,ez,ad.box [ow 6],Xb x,cO m,ad.sl false 5 false (bF (y::t))] from rfl,zU];simp only [aG,aI,aR,bH,bK,bZ,aT,aL,bD,aW,bu,↓reduceIte,(show ¬(j:Int) < ((0:Nat):Int) by omega),bw,be];exact h
    | cons c u=>rw [show cQ a ew ms x m (y::t) (c::u)= [ca a,bC ew ms,ez,ad.box [ow 6],Xo 7 x,cO m,ad.sl false 5 false (bF (y::t)),ad.sl false 5 false (aC (c::u))] from rfl,th];simp only [aG,aI,aR,bH,bK,bZ,aT,aL,bD,aW,bu,↓reduceIte,l,bw,be];exact h
 | cons o r F=>
  intro j d g hs;obtain⟨z,D,E⟩:=bq g;have l:(j:Int) < (rows.length:Int):=by omega
  have h0: 0<=(j:Int):=by omega
  have w:=yh (e:=o.ea) (e':=e.ea) (a:=o.ar) (b:=e.ar) (A o (NU z));have p:=F (j+1) (d || decide (o.ar=e.ar)) E (by rw [OS] at hs;rw [<-hs,Bool.or_assoc]);refine ah ?_;cases rows with
  | nil=>simp at D
  | cons c u=>
  cases d with
  | true=>
   rw [Pb] at p;cases acc with
   | nil=>rw [show cQ a ew ms x m [] (c::u)= [ca a,bC ew ms,ez,ez,Xo 6 x,cO m,ad.sl false 5 false (aC (c::u))] from rfl,tg];simp only [aG,aI,aR,bH,bK,bZ,aT,aL,bD,aW,bu,↓reduceIte,bw,l,NR,br,dW,aZ,next j (by omega)];exact p
   | cons y t=>rw [show cQ a ew ms x m (y::t) (c::u)= [ca a,bC ew ms,ez,ad.box [ow 6],Xo 7 x,cO m,ad.sl false 5 false (bF (y::t)),ad.sl false 5 false (aC (c::u))] from rfl,th];simp only [aG,aI,aR,bH,bK,bZ,aT,aL,bD,aW,bu,↓reduceIte,bw,l,NR,br,dW,aZ,next j (by omega)];exact p
  | false=>
   rw [Om] at p;cases acc with
   | nil=>rw [show cQ a ew ms x m [] (c::u)= [ca a,bC ew ms,ez,ez,Xo 6 x,cO m,ad.sl false 5 false (aC (c::u))] from rfl,tg];simp only [aG,aI,aR,bH,bK,bZ,aT,aL,bD,aW,bu,↓reduceIte,bw,l,h0,v,s,and_self,NS,dE,cW z,cW C,cq,w,be,next j (by omega)];exact p
   | cons y t=>rw [show cQ a ew ms x m (y::t) (c::u)= [ca a,bC ew ms,ez,ad.box [ow 6],Xo 7 x,cO m,ad.sl false 5 false (bF (y::t)),ad.sl false 5 false (aC (c::u))] from rfl,th];simp only [aG,aI,aR,bH,bK,bZ,aT,aL,bD,aW,bu,↓reduceIte,bw,l,h0,v,s,and_self,NS,dE,cW z,cW C,cq,w,be,next j (by omega)];exact p
theorem Jw{a:As}{ew:Bool}{ms acc:List Me}{m:Me}{f k n b:Nat}{x:Int}{R:List T}(A:la ((ms.drop f).take n))(v:((ms.drop f).take n).length=n)(w:ms.length<=1000)(hm:oz m)(D:b<=8):∀(r:List En) (i:Nat) (rows:List En),m.rs.drop i=r->rows.length+r.length<=100000->(∀y∈rows,y.ar.length<=1000)->
  Or iD [rf 0,rf 1,rf 2,rf 3,I (f:Int),I (k:Int),I (n:Int),rf 4,I ((b+1:Nat):Int)] (jD a ew ms x acc (ej true (eG ((ms.drop f).take n)) rows r))=some R->
  Or fx [rf 0,rf 1,rf 2,rf 3,I (f:Int),I (k:Int),I (n:Int),rf 4,I (b:Int),rf 5,I (i:Int)] (cQ a ew ms x m acc rows)=some R:=by
 have:=hm.ok.rl;intro r;induction r with
 | nil=>
  intro i rows g hrl j d;have h:¬(i:Int) < (m.rs.length:Int):=by have:=bp g;omega
  rw [ej] at d;refine ah ?_;cases acc with
  | nil=>
   cases rows with
   | nil=>rw [show cQ a ew ms x m [] []= [ca a,bC ew ms,ez,ez,Xb x,cO m] from rfl,zP];simp only [aG,aI,aR,bH,bK,bZ,aT,aL,bD,aW,bu,↓reduceIte,bw,h,next b (by omega)];exact d
   | cons c u=>rw [show cQ a ew ms x m [] (c::u)= [ca a,bC ew ms,ez,ez,Xo 6 x,cO m,ad.sl false 5 false (aC (c::u))] from rfl,zR];simp only [aG,aI,aR,bH,bK,bZ,aT,aL,bD,aW,bu,↓reduceIte,bw,h,next b (by omega)];exact d
  | cons y t=>
   cases rows with
   | nil=>rw [show cQ a ew ms x m (y::t) []= [ca a,bC ew ms,ez,ad.box [ow 6],Xb x,cO m,ad.sl false 5 false (bF (y::t))] from rfl,zQ];simp only [aG,aI,aR,bH,bK,bZ,aT,aL,bD,aW,bu,↓reduceIte,bw,h,next b (by omega)];exact d
   | cons c u=>rw [show cQ a ew ms x m (y::t) (c::u)= [ca a,bC ew ms,ez,ad.box [ow 6],Xo 7 x,cO m,ad.sl false 5 false (bF (y::t)),ad.sl false 5 false (aC (c::u))] from rfl,zS];simp only [aG,aI,aR,bH,bK,bZ,aT,aL,bD,aW,bu,↓reduceIte,bw,h,next b (by omega)];exact d
 | cons e r z=>
  intro i rows g hrl j d;obtain⟨p,E,s⟩:=bq g;have C:=NU p;have h:(i:Int) < (m.rs.length:Int):=by omega
  rw [NV] at hrl;rw [ej] at d;have o:Or ic [rf 0,rf 1,rf 2,rf 3,I (f:Int),I (k:Int),I (n:Int),rf 4,I (b:Int),rf 5,I (i:Int),B false,I 0] (cQ a ew ms x m acc rows)=some R:=by
   refine Jv p (by omega) (by omega) j (λq=> ?_) (λq=> ?_) rows 0 false rfl (by rw [Om])
   .rw [if_pos q] at d;exact z (i+1) rows s (by omega) j d
   .rw [if_neg (by rw [q];decide)] at d;refine Ju A v w p (by omega) (by omega) (z (i+1) _ s (by rw [OB,NW];omega) (λy l=> ?_) d) _ 0 0 rfl (OT _) (by decide) (by rw [Qv];rfl);rcases N4.1 l with l | l
    .exact j y l
    .simp only [NY] at l;subst l;exact hm.ok.al e C
  refine ah ?_;cases acc with
  | nil=>
   cases rows with
   | nil=>rw [show cQ a ew ms x m [] []= [ca a,bC ew ms,ez,ez,Xb x,cO m] from rfl,zP];simp only [aG,aI,aR,bH,bK,bZ,aT,aL,bD,aW,bu,↓reduceIte,bw,h];exact o
   | cons c u=>rw [show cQ a ew ms x m [] (c::u)= [ca a,bC ew ms,ez,ez,Xo 6 x,cO m,ad.sl false 5 false (aC (c::u))] from rfl,zR];simp only [aG,aI,aR,bH,bK,bZ,aT,aL,bD,aW,bu,↓reduceIte,bw,h];exact o
  | cons y t=>
   cases rows with
   | nil=>rw [show cQ a ew ms x m (y::t) []= [ca a,bC ew ms,ez,ad.box [ow 6],Xb x,cO m,ad.sl false 5 false (bF (y::t))] from rfl,zQ];simp only [aG,aI,aR,bH,bK,bZ,aT,aL,bD,aW,bu,↓reduceIte,bw,h];exact o
   | cons c u=>rw [show cQ a ew ms x m (y::t) (c::u)= [ca a,bC ew ms,ez,ad.box [ow 6],Xo 7 x,cO m,ad.sl false 5 false (bF (y::t)),ad.sl false 5 false (aC (c::u))] from rfl,zS];simp only [aG,aI,aR,bH,bK,bZ,aT,aL,bD,aW,bu,↓reduceIte,bw,h];exact o
def r6(rs:List En)(x:Int):Me:=⟨true && rs.isEmpty,rs.isEmpty,rs,nu true x⟩
theorem CM{a:As}{ew:Bool}{ms acc:List Me}{d k n:Nat}{R:List T}(F:la ((ms.drop d).take n))(E:((ms.drop d).take n).length=n)(O:ms.length<=1000)(X:d+n<=ms.length)(hk:k<=100)(W:acc.length<=1000){RS:List En}{XV:Int}
  (f:if 1000 < RS.length then R= [T.ae true,tb false] else Or jA [rf 0,rf 1,rf 2,rf 3,I ((d+n:Nat):Int),I ((k+1:Nat):Int)] (mq a ew ms (acc++ [r6 RS XV]))=some R):∀(r:List Me) (b:Nat) (x:Int) (rows:List En),((ms.drop d).take n).drop b=r->b<=n->0<=x/\x < 2 ^ b->rows.length+1000 * r.length<=100000->(∀y∈rows,y.ar.length<=1000)->fh true (eG ((ms.drop d).take n)) rows r=RS->x+hY b (r.map λm=>m.re.n)=XV->
  Or iD [rf 0,rf 1,rf 2,rf 3,I (d:Int),I (k:Int),I (n:Int),rf 4,I (b:Int)] (jD a ew ms x acc rows)=some R:=by
 have Q:=F.bl;rw [E] at Q;intro r;induction r with
 | nil=>
  intro b x rows g L J hrl q i j;have h:¬(b:Int) < (n:Int):=by have:=bp g;omega
  rw [fh] at i;rw [OV,hY,QH] at j;subst i j;have s:i64.wrap ((d:Int)+ (n:Int))= ((d+n:Nat):Int):=by rw [wr (by omega)];omega
  have M: [[T.ae true,ti x,ti 1,T.ae true,ti 0]]=bF [r6 [] x]:=rfl;have G:∀l:List Me,bF l++ [[T.ae true,ti x,ti 1,T.ae true,ti 0]]=bF (l++ [r6 [] x]):=λl=>by rw [<-tA];rfl
  have N:∀c u,[[T.ab 5 false (aC (c::u)),ti x,ti 1,T.ae true,ti 0]]=bF [r6 (c::u) x]:=λc u=>rfl;have H:∀c u,∀l:List Me,bF l++ [[T.ab 5 false (aC (c::u)),ti x,ti 1,T.ae true,ti 0]]=bF (l++ [r6 (c::u) x]):=λc u l=>by rw [<-tA];rfl
  refine ah ?_;cases acc with
  | nil=>
   cases rows with
   | nil=>rw [show jD a ew ms x [] []= [ca a,bC ew ms,ez,ez,Xb x] from rfl,zL];rw [if_neg (by simp)] at f;simp only [aG,aI,aR,bH,bK,bZ,aT,aL,bD,aW,bu,↓reduceIte,h,s,next k (by omega),M];exact f
   | cons c u=>
    rw [show jD a ew ms x [] (c::u)= [ca a,bC ew ms,ez,ez,Xo 5 x,ad.sl false 5 false (aC (c::u))] from rfl,zN];by_cases p: 1000 < (c::u).length
    .have e:((c::u).length:Int) > 1000:=by omega
     rw [if_pos p] at f;simp only [aG,aI,aR,bH,bK,bZ,aT,aL,bD,aW,bu,↓reduceIte,h,bw,e];rw [f]
    .have e:¬((c::u).length:Int) > 1000:=by omega
     rw [if_neg p] at f;simp only [aG,aI,aR,bH,bK,bZ,aT,aL,bD,aW,bu,↓reduceIte,h,s,bw,e,next k (by omega),N];exact f
  | cons y t=>
   cases rows with
   | nil=>rw [show jD a ew ms x (y::t) []= [ca a,bC ew ms,ez,ad.box [ow 5],Xb x,ad.sl false 5 false (bF (y::t))] from rfl,zM];rw [if_neg (by simp)] at f;simp only [aG,aI,aR,bH,bK,bZ,aT,aL,bD,aW,bu,↓reduceIte,h,s,next k (by omega),dx,NW,cE (show(y::t).length+1<=1000000 by omega)];rw [G];exact f
   | cons c u=>
    rw [show jD a ew ms x (y::t) (c::u)= [ca a,bC ew ms,ez,ad.box [ow 5],Xo 6 x,ad.sl false 5 false (bF (y::t)),ad.sl false 5 false (aC (c::u))] from rfl,zO];by_cases p: 1000 < (c::u).length
    .have e:((c::u).length:Int) > 1000:=by omega
     rw [if_pos p] at f;simp only [aG,aI,aR,bH,bK,bZ,aT,aL,bD,aW,bu,↓reduceIte,h,bw,e];rw [f]
    .have e:¬((c::u).length:Int) > 1000:=by omega
     rw [if_neg p] at f;simp only [aG,aI,aR,bH,bK,bZ,aT,aL,bD,aW,bu,↓reduceIte,h,s,bw,e,next k (by omega),dx,NW,cE (show(y::t).length+1<=1000000 by omega)];rw [H];exact f
 | cons m r V=>
  intro b x rows g L J hrl q i j;obtain⟨K,Z,S⟩:=bq g;obtain⟨v,q2⟩:=EB K;have hm:=F.ok m (NU K);have q3:=(NQ.1 v).1;have h:(b:Int) < (n:Int):=by omega
  have A:¬(b:Int) < 0:=by omega
  have D:i64.wrap ((d:Int)+ (b:Int))= ((d+b:Nat):Int):=by rw [wr (by omega)];omega
  have w:((d+b:Nat):Int) < (ms.length:Int):=by omega
  have z: 0<=((d+b:Nat):Int):=by omega
  have o:=yQ J hm.re (show b<=8 by omega);have C:=EO (show b<=1000 by omega);have Y:=(qR true (eG ((ms.drop d).take n)) m.rs rows).1;have U:=hm.ok.rl;rw [NV] at hrl;rw [fh] at i;rw [Oq,hY,<-Int.add_assoc] at j;have B:=Jw (a:=a) (ew:=ew) (acc:=acc) (k:=k) (b:=b) (x:=x+m.re.n * 2 ^ b) (R:=R) F E O hm (by omega) m.rs 0 rows rfl (by omega) q
   (V (b+1) (x+m.re.n * 2 ^ b) (ej true (eG ((ms.drop d).take n)) rows m.rs) S (by omega) (sR J hm.re) (by omega) (qQ true _ (P:=λl=>l.length<=1000) m.rs rows q hm.ok.al) i j)
  unfold sM at o;refine ah ?_;cases acc with
  | nil=>
   cases rows with
   | nil=>rw [show jD a ew ms x [] []= [ca a,bC ew ms,ez,ez,Xb x] from rfl,zL];simp only [aG,aI,aR,bH,bK,bZ,aT,aL,bD,aW,bu,↓reduceIte,h,A,D,w,z,and_self,dx,bw,ji v,fH,cq,C,Oa,o];exact B
   | cons c u=>rw [show jD a ew ms x [] (c::u)= [ca a,bC ew ms,ez,ez,Xo 5 x,ad.sl false 5 false (aC (c::u))] from rfl,zN];simp only [aG,aI,aR,bH,bK,bZ,aT,aL,bD,aW,bu,↓reduceIte,h,A,D,w,z,and_self,dx,bw,ji v,fH,cq,C,Oa,o];exact B
  | cons y t=>
   cases rows with
   | nil=>rw [show jD a ew ms x (y::t) []= [ca a,bC ew ms,ez,ad.box [ow 5],Xb x,ad.sl false 5 false (bF (y::t))] from rfl,zM];simp only [aG,aI,aR,bH,bK,bZ,aT,aL,bD,aW,bu,↓reduceIte,h,A,D,w,z,and_self,dx,bw,ji v,fH,cq,C,Oa,o];exact B
   | cons c u=>rw [show jD a ew ms x (y::t) (c::u)= [ca a,bC ew ms,ez,ad.box [ow 5],Xo 6 x,ad.sl false 5 false (bF (y::t)),ad.sl false 5 false (aC (c::u))] from rfl,zO];simp only [aG,aI,aR,bH,bK,bZ,aT,aL,bD,aW,bu,↓reduceIte,h,A,D,w,z,and_self,dx,bw,ji v,fH,cq,C,Oa,o];exact B
abbrev nF:=hP (dY true) n5
def sa(acc:List Me):Option (List Me)->List T->Prop
 | none,r=>r= [T.ae true,tb false]
 | some l,r=>∃x,r= [x,tb true]/\x.ak 5=some ((acc++l).isEmpty,bF (acc++l))
theorem yN{acc:List Me}{m:Me}{o:Option (List Me)}{r:List T}(h:sa (acc++ [m]) o r):sa acc (o.map (m::·)) r:=by
 cases o with
 | none=>exact h
 | some l=>obtain⟨x,b,a⟩:=h;exact⟨x,b,by rw [Og] at a;exact a⟩
theorem Jt{a:As}{ew:Bool}{ms:List Me}(M:a.ds.length<=100)(w:ms.length<=1000):∀(r:List Dc) (i b:Nat) (acc:List Me),a.ds.drop i=r->b<=ms.length->ko r (ms.drop b)->acc.length+r.length<=1000->
  ∃R,Or jA [rf 0,rf 1,rf 2,rf 3,I (b:Int),I (i:Int)] (mq a ew ms acc)=some R/\sa acc (nF r (ms.drop b)) R:=by
 intro r;induction r with
 | nil=>
  intro i b acc g D c v;have k:¬(i:Int) < (a.ds.length:Int):=by have:=bp g;omega
  cases acc with
  | nil=>refine⟨[T.ae true,tb true],ah ?_,⟨T.ae true,rfl,rfl⟩⟩;rw [show mq a ew ms []= [ca a,bC ew ms,ez,ez] from rfl,vS];simp only [aG,aI,aR,bH,bK,bZ,aT,aL,bD,aW,bu,↓reduceIte,cj,k]
  | cons y t=>refine⟨[T.ab 5 false (bF (y::t)),tb true],ah ?_,⟨_,rfl,by rw [aW,Oj];rfl⟩⟩;rw [show mq a ew ms (y::t)= [ca a,bC ew ms,ez,ad.box [ow 4],ad.sl false 5 false (bF (y::t))] from rfl,vT];simp only [aG,aI,aR,bH,bK,bZ,aT,aL,bD,aW,bu,↓reduceIte,cj,k]
 | cons d r H=>
  intro i b acc g D c v;obtain⟨s,O,A⟩:=bq g;have k:(i:Int) < (a.ds.length:Int):=by omega
  have h0: 0<=(i:Int):=by omega
  have f:=Lo d.so;rw [NV] at v;rw [ko] at c;rw [show nF (d::r) (ms.drop b)=hP (dY true) n5 (d::r) (ms.drop b) from rfl,hP];cases q:aJ d.so with
  | false=>
   rw [q,if_neg (by decide)] at c;obtain⟨m,S,x,wf,ok,c⟩:=c;obtain⟨J,Q,K⟩:=bq x;rw [if_neg (by decide),x,OP,NO,Pw];rw [q,if_neg (by decide)] at f;have B:(b:Int) < (ms.length:Int):=by omega
   have C: 0<=(b:Int):=by omega
   obtain⟨R,o,e⟩:=H (i+1) (b+1) (acc++ [n5 m]) A (by omega) (by rw [K];exact c) (by rw [OB,NW];omega);rw [K] at e;refine⟨R,ah ?_,yN e⟩;have F: [[T.ab 5 m.er (aC m.rs),ti m.re.n,ti m.re.d,T.ab 2 m.re.ec (cz m.re.cs),ti m.re.r]]=bF [n5 m]:=rfl;have G:∀l:List Me,bF l++ [[T.ab 5 m.er (aC m.rs),ti m.re.n,ti m.re.d,T.ab 2 m.re.ec (cz m.re.cs),ti m.re.r]]=bF (l++ [n5 m]):=λl=>by rw [<-tA];rfl
   cases acc with
   | nil=>rw [show mq a ew ms []= [ca a,bC ew ms,ez,ez] from rfl,vS];simp only [aG,aI,aR,bH,bK,bZ,aT,aL,bD,aW,bu,↓reduceIte,qw,k,h0,B,C,and_self,cj,dx,dh s,my J,fH,cq,f,next i (by omega),next b (by omega),F];exact o
   | cons y t=>rw [show mq a ew ms (y::t)= [ca a,bC ew ms,ez,ad.box [ow 4],ad.sl false 5 false (bF (y::t))] from rfl,vT];simp only [aG,aI,aR,bH,bK,bZ,aT,aL,bD,aW,bu,↓reduceIte,qw,k,h0,B,C,and_self,cj,dx,dh s,my J,fH,cq,f,next i (by omega),next b (by omega),NW,cE (show(y::t).length+1<=1000000 by omega)];rw [G];exact o
  | true=>
   rw [q,if_pos rfl] at c;obtain⟨L,u,c⟩:=c;rw [if_pos rfl];rw [q,if_pos rfl] at f;have P:=tT.1 q;have N:bL d.so<=8/\1<=bL d.so:=by unfold bL;omega
   rw [ON] at L;have z:(((bL d.so:Nat):Int)==0)=false:=by rw [beq_eq_false_iff_ne];omega
   have E:la ((ms.drop b).take (bL d.so)):=⟨by rw [OG];omega,u⟩;have p:((ms.drop b).take (bL d.so)).length=bL d.so:=by rw [OG,ON];omega
   have go:∃R,Or iD [rf 0,rf 1,rf 2,rf 3,I (b:Int),I (i:Int),I ((bL d.so:Nat):Int),rf 4,I ((0:Nat):Int)] (jD a ew ms 0 acc [])=some R/\sa acc (if 1000 < (dY true ((ms.drop b).take (bL d.so))).rs.length then none else(nF r ((ms.drop b).drop (bL d.so))).map (dY true ((ms.drop b).take (bL d.so))::·)) R:=by
    by_cases j: 1000 < (gV true ((ms.drop b).take (bL d.so))).length
    .rw [if_pos (show 1000 < (dY true ((ms.drop b).take (bL d.so))).rs.length from j)];exact⟨[T.ae true,tb false],CM (RS:=gV true ((ms.drop b).take (bL d.so))) (XV:=qP ((ms.drop b).take (bL d.so))) E p w (by omega) (by omega) (by omega) (by rw [if_pos j]) _ 0 0 [] rfl (OT _) (by decide) (by rw [N7,PU,p];omega) (λy h=>by cases h) rfl (by rw [Qv];rfl),rfl⟩
    .rw [if_neg (show ¬1000 < (dY true ((ms.drop b).take (bL d.so))).rs.length from j)];rw [P3] at c⊢;obtain⟨R,o,e⟩:=H (i+1) (b+bL d.so) (acc++ [dY true ((ms.drop b).take (bL d.so))]) A (by omega) c (by rw [OB,NW];omega);exact⟨R,CM (RS:=gV true ((ms.drop b).take (bL d.so))) (XV:=qP ((ms.drop b).take (bL d.so))) E p w (by omega) (by omega) (by omega) (by rw [if_neg j];exact o) _ 0 0 [] rfl (OT _) (by decide) (by rw [N7,PU,p];omega) (λy h=>by cases h) rfl (by rw [Qv];rfl),yN e⟩
   obtain⟨R,o,e⟩:=go;refine⟨R,ah ?_,e⟩;cases acc with
   | nil=>rw [show mq a ew ms []= [ca a,bC ew ms,ez,ez] from rfl,vS];simp only [aG,aI,aR,bH,bK,bZ,aT,aL,bD,aW,bu,↓reduceIte,be,k,h0,and_self,cj,dh s,f,z];exact o
   | cons y t=>rw [show mq a ew ms (y::t)= [ca a,bC ew ms,ez,ad.box [ow 4],ad.sl false 5 false (bF (y::t))] from rfl,vT];simp only [aG,aI,aR,bH,bK,bZ,aT,aL,bD,aW,bu,↓reduceIte,be,k,h0,and_self,cj,dh s,f,z];exact o
theorem yV{p:List Int}:∀{a b:List En},fW a b->(a.any λx=>decide (x.ar=p))= (b.any λx=>decide (x.ar=p))
 | [],[],_=>rfl
 | e::r,x::t,h=>by rw [OS,OS,yV h.2,h.1.1]
 | [],_::_,h=>h.elim
 | _::_,[],h=>h.elim
theorem By{e x:En}:∀{a b:List En},fW a b->e.ar=x.ar->kF e.to x.to->fW (a++ [e]) (b++ [x])
 | [],[],_,h,c=>⟨⟨h,c⟩,trivial⟩
 | _::_,_::_,g,h,c=>⟨g.1,By g.2 h c⟩
 | [],_::_,g,_,_=>g.elim
 | _::_,[],g,_,_=>g.elim
theorem xn(val:List Int->Int):∀(r a b:List En),fW a b->fW (ej false val a r) (ej true val b r)
 | [],a,b,h=>h
 | e::r,a,b,h=>by
  rw [ej,ej,yV h];split
  .exact xn val r a b h
  .exact xn val r _ _ (By h rfl ⟨rfl,rfl,rfl,rfl⟩)
theorem Ch(val:List Int->Int):∀(r:List Me) (a b:List En),fW a b->fW (fh false val a r) (fh true val b r)
 | [],a,b,h=>h
 | m::r,a,b,h=>by rw [fh,fh];exact Ch val r _ _ (xn val m.rs a b h)
theorem IW(a:List Me):fW (dY false a).rs (dY true a).rs/\kF (dY false a).re (dY true a).re:=⟨Ch _ a [] [] trivial,⟨rfl,rfl,rfl,rfl⟩⟩
def wU:Option (List Me)->Option (List Me)->Prop
 | none,none=>True
 | some l,some a=>iM l a
 | _,_=>False
theorem BC{m b:Me}{o a:Option (List Me)}(h:wU o a)(hm:fW m.rs b.rs/\kF m.re b.re):wU (o.map (m::·)) (a.map (b::·)):=by
 cases o with
 | none=>cases a with
  | none=>trivial
  | some l=>exact h.elim
 | some l=>cases a with
  | none=>exact h.elim
  | some c=>exact⟨hm,h⟩
theorem yJ:∀(ds:List Dc) (ms:List Me),wU (rZ ds ms) (nF ds ms)
 | [],ms=>trivial
 | d::ds,ms=>by
  rw [show rZ (d::ds) ms=hP (dY false) kA (d::ds) ms from rfl,show nF (d::ds) ms=hP (dY true) n5 (d::ds) ms from rfl,hP,hP];split
  .have a:=IW (ms.take (bL d.so));rw [<-wT a.1];split
   .trivial
   .exact BC (yJ ds _) a
  .cases ms with
   | nil=>trivial
   | cons m t=>exact BC (yJ ds t) ⟨Bx,kF.rfl⟩
theorem IX{q:Bool}{a:List Me}(g:∀m∈a,oz m)(hl:(dY q a).rs.length<=1000):iF (dY q a):=by
 refine⟨hl,by simp [dY,nu],λe d=>⟨?_,Cg q _ (P:=λl=>l.length<=1000) a [] (λy h=>by cases h) (λm hm=>(g m hm).ok.al) e d⟩⟩;have:∀(r:List Me) (acc:List En),(∀e∈acc,e.to.cs= [])->∀e∈fh q (eG a) acc r,e.to.cs= []:=by
  have f:∀(r acc:List En),(∀e∈acc,e.to.cs= [])->∀e∈ej q (eG a) acc r,e.to.cs= []:=by
   intro r;induction r with
   | nil=>intro acc h;exact h
   | cons x r c=>
    intro acc h;rw [ej];split
    .exact c acc h
    .refine c _ λy b=> ?_;rcases N4.1 b with b | b
     .exact h y b
     .simp only [NY] at b;subst b;rfl
  intro r;induction r with
  | nil=>intro acc h;exact h
  | cons m r c=>intro acc h;rw [fh];exact c _ (f m.rs acc h)
 rw [this a [] (λy h=>by cases h) e d];exact OT _
theorem ve{q:Bool}{c:Me->Me}(i:∀m,fJ m->gO m->iF (c m)):∀{ds:List Dc} {ms l:List Me},ko ds ms->hP (dY q) c ds ms=some l->(∀x∈l,iF x)/\l.length=ds.length
 | [],ms,l,_,h=>by rw [hP] at h;simp only [NL] at h;subst h;exact⟨λx h=>(by cases h),rfl⟩
 | d::ds,ms,l,a,h=>by
  rw [hP] at h;rw [ko] at a;split at h
  .rename_i j;rw [if_pos j] at a;split at h
   .cases h
   .rename_i hs;obtain⟨k,e,rfl⟩:=Pc.1 h;obtain⟨f,g⟩:=ve i a.2.2 e;exact⟨λx b=>by
     rcases N2.1 b with rfl | b
     .exact IX a.2.1 (by omega)
     .exact f x b,by rw [NV,NV,g]⟩
  .rename_i j;rw [if_neg j] at a;obtain⟨m,t,rfl,wf,ok,a⟩:=a;rw [OP,NO,Pw] at h;obtain⟨k,e,rfl⟩:=Pc.1 h;obtain⟨f,g⟩:=ve i a e;exact⟨λx b=>by
    rcases N2.1 b with rfl | b
    .exact i m wf ok
    .exact f x b,by rw [NV,NV,g]⟩
def lf:List Dc->List Dc->Prop
 | [],D=>D= []
 | d::ds,D=>if aJ d.so=true then(∃B a,D=B++a/\B.length=bL d.so/\(∀x∈B,x.so=1)/\lf ds a) else(∃x a,D=x::a/\lf ds a)
theorem zi(p:ByteArray)(k:Nat)(d:Dc):∀(n b:Nat),∀x∈gr p k d b n,x.so=1
 | 0,_,x,h=>by cases h
 | n+1,b,x,h=>by
  rw [gr,N2] at h;rcases h with rfl | h
  .rfl
  .exact zi p k d n (b+1) x h
theorem wW(p:ByteArray):∀(ds:List Dc) (k:Nat),lf ds (dG p k ds)
 | [],_=>rfl
 | d::ds,k=>by
  rw [lf,dG];split
  .rename_i h;exact⟨_,_,rfl,sS _ _ _ _ _,zi _ _ _ _ _,wW p ds (k+1)⟩
  .exact⟨d,_,rfl,wW p ds (k+1)⟩
theorem BE:∀(ds:List Dc),(∀d∈ds,aJ d.so=false)->lf ds ds
 | [],_=>rfl
 | d::ds,h=>by rw [lf,if_neg (by rw [h d NN];decide)];exact⟨d,ds,rfl,BE ds λx a=>h x (NP _ a)⟩
theorem Ca{v:Va}(h:eP 1 v=true):v.n=0\/v.n=1:=by
 unfold eP at h;rw [if_neg (by decide)] at h;split at h
 .cases h
 .rw [if_pos rfl] at h;simpa using h
theorem yI:∀(ds D:List Dc) (ms:List Me),lf ds D->ms.length=D.length->(∀m∈ms,fJ m/\gO m)->(∀(j:Nat) (d:Dc) (m:Me),D[j]? =some d->ms[j]? =some m->jo d m=0)->ko ds ms
 | [],D,ms,_,_,_,_=>trivial
 | d::ds,D,ms,a,hl,f,n=>by
  rw [lf] at a;rw [ko];split
  .rename_i h;rw [if_pos h] at a;obtain⟨B,g,rfl,r,q,a⟩:=a;rw [OB] at hl;refine⟨by omega,λm hm=> ?_,yI ds g (ms.drop (bL d.so)) a (by rw [ON];omega) (λm hm=>f m (PS hm)) (λj l m b hm=> ?_)⟩
   .obtain⟨j,i⟩:=PB hm;rw [PK] at i;split at i
    .rename_i s;have c:j < B.length:=by omega
     have b:(B++g)[j]? =some B[j]:=by rw [Ot c,NZ c]
     obtain⟨u,v,c3,p⟩:=CG (n j _ m b i);have hs:=q _ (P8 c);rw [hs] at c3 p;have k:=f m (Pz hm);exact⟨Ca c3,λe a=>Ca (p e a),k.2,k.1.ea⟩
    .cases i
   .rw [Pu] at hm;exact n (bL d.so+j) l m (by rw [<-r,OH (by omega),Nat.add_sub_cancel_left];exact b) hm
  .rename_i h;rw [if_neg h] at a;obtain⟨x,g,rfl,a⟩:=a;cases ms with
   | nil=>simp at hl
   | cons m t=>exact⟨m,t,rfl,(f m NN).1,(f m NN).2,yI ds g t a (by simpa using hl) (λy o=>f y (NP _ o)) (λj l y b o=>n (j+1) l y (by simpa using b) (by simpa using o))⟩
theorem zh{p:ByteArray}(c:p.size<=100){k:Nat}(a:k<=100){d:Dc}:∀(n b:Nat),b+n<=100->∀x∈gr p k d b n,x.nm.size<=1000
 | 0,_,_,x,h=>by cases h
 | n+1,b,i,x,h=>by
  rw [gr,N2] at h;rcases h with rfl | h
  .have e:=fY (n:=(k:Int)) ⟨by omega,by omega⟩;have f:=fY (n:=(b:Int)) ⟨by omega,by omega⟩;simp only [Ob];have g:us.size=1:=fS;omega
  .exact zh c a n (b+1) (by omega) x h
theorem zB{p:ByteArray}(b:p.size<=100):∀(ds:List Dc) (k:Nat),k+ds.length<=100->(∀d∈ds,d.nm.size<=12)->∀x∈dG p k ds,x.nm.size<=1000
 | [],_,_,_,x,h=>by cases h
 | d::ds,k,c,a,x,h=>by
  rw [dG,N4] at h;rw [NV] at c;rcases h with h | h
  .split at h
   .rename_i e;have:=tT.1 e;exact zh b (by omega) _ 0 (by omega) x h
   .simp only [NY] at h;subst h;have:=a x NN;omega
  .exact zB b ds (k+1) (by omega) (λy f=>a y (NP _ f)) x h
theorem F7(a:As):(∃c p:Int,c≠0/\oV a= [T.ae true,T.ae true,T.ae true,ti c,ti p])\/
  (∃b:As,oV a= [T.ab 3 b.ed (aM b.ds),T.ab 5 b.en (ba b.ns),T.ab 1 b.eh (enc b.hs),ti 0,ti 0]/\lf a.ds b.ds/\∀d∈b.ds,d.nm.size<=9223372036854775807):=by
 unfold oV;by_cases h:(cM a).2.1=0
 .obtain⟨ok,i⟩:=qA (es:=(cM a).1.isEmpty) h;have j:a.ds.length<=30:=ok.dl;have f:∀d∈a.ds,d.nm.size<=12:=ok.ds;rw [if_pos h];unfold tc;split
  .unfold kS;have k:(fm a.ds).size<=12:=xP f 11 us (by rw [fS];omega)
   repeat' split
   .exact .inl ⟨10,0,by decide,rfl⟩
   .exact .inl ⟨10,0,by decide,rfl⟩
   .exact .inr ⟨⟨_,_,_,_,_,_⟩,rfl,wW _ _ _,λd e=>by have:=zB (show(fm a.ds).size<=100 by omega) a.ds 0 (by omega) f d e;omega⟩
  .rename_i g;rw [Ps] at g;refine .inr ⟨⟨a.ds.isEmpty,a.ds,a.ns.isEmpty,a.ns,a.eh,a.hs⟩,rfl,BE _ λd e=> ?_,λd e=>by have:=f d e;omega⟩;unfold r8 at g;rw [Pm] at g;have:=Pg.1 g.2 d e;simpa using this
 .rw [if_neg h];exact .inl ⟨(cM a).2.1,(cM a).2.2,h,rfl⟩
theorem FY(m:Me)(wf:fJ m)(ok:gO m):iF (kA m):=(CH wf ok).2
theorem Jo(m:Me)(wf:fJ m)(ok:gO m):iF (n5 m):=(CH wf ok).1
theorem Ln(x y:Int):Or (.call 14) [I x,I y] []=some [ti x,ti y]:=by refine ah ?_;rw [Gi]
theorem IY{a:As}{ew:Bool}{ms:List Me}(s:EY a ms)(w:Or (.call 6) [] []=some [tb true]):Or (.call 4) [AG a,WG ew ms] []=some [tb true]:=by
 have g:=MQ (a:=a) s.aw s.nm;rcases F7 a with⟨c,p,U,r⟩ | ⟨b,r,D,G⟩
 .rw [r] at g;have z:(c==0)=false:=by simpa using U
  have f:Or (.call 12) [AG a,WG ew ms] []=some [T.ae true,ti c,ti p]:=by refine ah ?_;rw [vR];simp only [aG,aI,aR,bH,bK,bZ,lD,aL,cn,aZ,be,g,z,NS]
  refine ah ?_;rw [e4];simp only [aG,aI,aR,bH,bK,bZ,lD,aT,aL,cn,aZ,be,w,NR,NS,f,g,z,beq_self_eq_true,OW,N7];rfl
 .rw [r] at g;have v:=s8 (a:=b) (ew:=ew) (ms:=ms) G s.wf;by_cases hm:(kP b ms).1=0
  .have d:((kP b ms).1==0)=true:=by simpa using hm
   obtain⟨X,K,L⟩:=Jm hm;obtain⟨okb,C⟩:=qA (es:=(cM b).1.isEmpty) X;have hbl:b.ds.length<=30:=okb.dl;have F:∀m∈ms,fJ m/\gO m:=λm hm=>⟨s.wf m hm,by
    obtain⟨j,E⟩:=PB hm;have A:j < b.ds.length:=by rw [<-K];exact(NQ.1 E).1
    obtain⟨Y,Z,_⟩:=CG (L j _ m (NZ A) E);exact⟨Y,λe n=>by rw [Z e n];have:=C _ (P8 A);omega⟩⟩
   have t:=yI a.ds b.ds ms D K F L;have S:a.ds.length<=30:=by
    by_cases h:(cM a).2.1=0
    .exact(qA (es:=(cM a).1.isEmpty) h).1.dl
    .exfalso;unfold oV at r;rw [if_neg h] at r;simp only [OY,T.int.injEq,true_and] at r;exact h r.2.2.2.1
   obtain⟨R,P,k⟩:=Js (ed:=a.ed) (ew:=ew) (ds:=a.ds) (ms:=ms) (by omega) (by omega) a.ds 0 0 [] rfl (OT _) (by rw [PU];exact t) (by simp;omega);obtain⟨Q,O,i⟩:=Jt (a:=a) (ew:=ew) (ms:=ms) (by omega) (by omega) a.ds 0 0 [] rfl (OT _) (by rw [PU];exact t) (by simp;omega);rw [PU] at k i;have f:Or (.call 12) [AG a,WG ew ms] []=some R:=by refine ah ?_;rw [vR];simp only [aG,aI,aR,bH,bK,bZ,lD,aL,aW,aZ,be,g,v,d,NR,beq_self_eq_true,cj];exact P
   have B:Or (.call 13) [AG a,WG ew ms] []=some Q:=by refine ah ?_;rw [Gh];exact O
   have n:=yJ a.ds ms;cases u:rZ a.ds ms with
   | none=>
    cases o:nF a.ds ms with
    | some l=>rw [u,o] at n;exact n.elim
    | none=>rw [u] at k;rw [o] at i;obtain rfl:R= [T.ae true,ti 10,ti 0]:=k;obtain rfl:Q= [T.ae true,tb false]:=i;refine ah ?_;rw [e4];simp only [aG,aI,aR,bH,bK,bZ,lD,aT,aL,aW,cn,aZ,be,w,NR,NS,f,g,v,B,d,Ln,beq_self_eq_true,OW,N7];rfl
   | some l=>
    cases o:nF a.ds ms with
    | none=>rw [u,o] at n;exact n.elim
    | some V=>rw [u,o] at n;rw [u] at k;rw [o] at i;obtain⟨x,rfl,H⟩:=k;obtain⟨y,rfl,I⟩:=i;rw [PA] at H I;obtain⟨M,W⟩:=ve (q:=false) FY t u;obtain⟨N,_⟩:=ve (q:=true) Jo t o;have J:=Lh (ew:=l.isEmpty) (ew':=V.isEmpty) (by omega) M N n;refine ah ?_;rw [e4];simp only [aG,aI,aR,bH,bK,bZ,lD,aT,aL,aW,cn,aZ,be,w,H,I,NR,NS,f,g,v,B,d,beq_self_eq_true,dE,J]
  .have d:((kP b ms).1==0)=false:=by simpa using hm
   have f:Or (.call 12) [AG a,WG ew ms] []=some [T.ae true,ti (kP b ms).1,ti (kP b ms).2]:=by refine ah ?_;rw [vR];simp only [aG,aI,aR,bH,bK,bZ,lD,aL,aW,aZ,be,g,v,d,NR,NS,beq_self_eq_true]
   refine ah ?_;rw [e4];simp only [aG,aI,aR,bH,bK,bZ,lD,aT,aL,aW,cn,aZ,be,w,NR,NS,f,g,v,d,beq_self_eq_true,OW,N7];rfl
end Go.Aev.Gen
