import Derived.Test.YtcjplcpngagalaaGreatDoorBlastUpsQ10
import Derived.Lib.IndexBytes
set_option linter.all false
namespace Go.Aev.Gen
open Go Go.Aev Go.IntKind
def jS(k:Nat)(p:Nd×Bool):Row:=Row.mk k [ti p.1.op,T.ao,ti p.1.n,ti p.1.d,T.str p.1.nm] (cond p.2 none (some (p.1.ek,enc p.1.ks)))
def dR:Nat->List (Nd×Bool)->List Row
 | _,[]=> []
 | k,p::r=>jS k p::dR (k+1) r
theorem rP:∀(k:Nat) (l:List (Nd×Bool)),(dR k l).length=l.length
 | _,[]=>rfl
 | k,p::r=>by rw [dR,NV,rP,NV]
theorem DI:∀{k:Nat} {l:List (Nd×Bool)} {i:Nat} {p:Nd×Bool},l[i]? =some p->(dR k l)[i]? =some (jS (k+i) p)
 | _,[],_,_,h=>by simp at h
 | k,y::r,0,x,h=>by simp at h;subst h;rfl
 | k,y::r,i+1,x,h=>by rw [dR,O9,DI (by simpa using h),show k+1+i=k+ (i+1) by omega]
theorem DH:∀{k:Nat} {l:List (Nd×Bool)} {i:Nat} {x:Nd},l[i]? =some (x,false)->cA (k+i) (dR k l)=some (x.ek,enc x.ks)
 | _,[],_,_,h=>by simp at h
 | k,y::r,0,x,h=>by simp at h;subst h;simp [dR,jS,cA]
 | k,y::r,i+1,x,h=>by have a:=DH (k:=k+1) (l:=r) (i:=i) (x:=x) (by simpa using h);rw [show k+1+i=k+ (i+1) by omega] at a;rw [dR,cA,if_neg (by simp [jS]),a]
theorem DK{ks:List Int}:∀{k:Nat} {l:List (Nd×Bool)} {i:Nat} {x:Nd} {g:Bool},l[i]? =some (x,g)->cR (k+i) (some (x.ek,enc ks)) (dR k l)=dR k (l.set i (⟨x.op,x.ek,ks,x.n,x.d,x.nm⟩,false))
 | _,[],_,_,_,h=>by simp at h
 | k,y::r,0,x,g,h=>by simp at h;subst h;simp [dR,jS,cR]
 | k,y::r,i+1,x,g,h=>by have a:=DK (ks:=ks) (k:=k+1) (l:=r) (i:=i) (x:=x) (g:=g) (by simpa using h);rw [show k+1+i=k+ (i+1) by omega] at a;rw [dR,cR,if_neg (by simp [jS]),a,PW,dR]
theorem DJ:∀{k:Nat} {l:List (Nd×Bool)} {i:Nat} {x:Nd} {g:Bool},l[i]? =some (x,g)->cR (k+i) none (dR k l)=dR k (l.set i (x,true))
 | _,[],_,_,_,h=>by simp at h
 | k,y::r,0,x,g,h=>by simp at h;subst h;simp [dR,jS,cR]
 | k,y::r,i+1,x,g,h=>by have a:=DJ (k:=k+1) (l:=r) (i:=i) (x:=x) (g:=g) (by simpa using h);rw [show k+1+i=k+ (i+1) by omega] at a;rw [dR,cR,if_neg (by simp [jS]),a,PW,dR]
theorem DF:∀(k:Nat) (l:List Nd),dR k (l.map λx=>(x,false))=eW k l
 | _,[]=>rfl
 | k,x::r=>by rw [Oq,dR,DF (k+1) r];rfl
def dK(l:List Bool):List (List T):=l.map λb=> [tb b]
theorem kE(l:List Bool):(dK l).length=l.length:=by simp [dK]
theorem nL{l:List Bool}{i:Nat}{b:Bool}(h:l[i]? =some b):(dK l)[i]? =some [tb b]:=by simp [dK,h]
theorem Eu{l:List Bool}{i:Nat}(v:Bool)(h:i < l.length):gh i 0 [tb v] (dK l)=some (dK (l.set i v)):=by unfold gh;rw [nL (NZ h)];simp [ct,dK]
theorem uZ{l:List Int}{i:Nat}(v:Int)(h:i < l.length):gh i 0 [ti v] (enc l)=some (enc (l.set i v)):=by unfold gh;rw [eK (NZ h)];simp [ct,enc]
def fi(need:List Bool):List Int->List Bool
 | []=>need
 | k::r=>fi (need.set k.toNat true) r
theorem ug:∀(ks:List Int) (need:List Bool),(fi need ks).length=need.length
 | [],_=>rfl
 | k::r,need=>by rw [fi,ug r,Qd]
def back(N:List Nd)(need:List Bool):Nat->List Bool
 | 0=>need
 | i+1=>back N (if need.getD i false then fi need ((N.getD i ⟨0,true,[],0,0,s0⟩).ks) else need) i
theorem zg(N:List Nd):∀(i:Nat) (need:List Bool),(back N need i).length=need.length
 | 0,_=>rfl
 | i+1,need=>by rw [back,zg N i];split <;> simp [ug]
def eQ(need:List Bool):Nat->List Nd->List Int->List Nd->List Int×List Nd
 | _,[],to,out=>(to,out)
 | i,x::r,to,out=>
  if need.getD i false then eQ need (i+1) r (to.set i (out.length:Int)) (out++ [⟨x.op,x.ek,x.ks.map λk=>(to.set i (out.length:Int)).getD k.toNat 0,x.n,x.d,x.nm⟩])
  else eQ need (i+1) r to out
def ov(N:List Nd)(hold:List Int):List Nd×List Int:=
 let need:=back N (fi (List.replicate N.length false) hold) N.length;let q:=eQ need 0 N (List.replicate N.length 0) []
 (q.2,hold.map λk=>q.1.getD k.toNat 0)
abbrev cL:ad:=ad.box [AV.t (T.ae true),AV.t (T.ae true),AV.t (T.ae true)]
theorem JU{N:List Nd}{eh:Bool}{hold:List Int}{ed:Bool}{ds:List (List T)}(hl:hold.length<=1000){r:List T}:∀(a:List Int) (j:Nat) (need:List Bool),hold.drop j=a->need.length=N.length->N.length<=100000->(∀k∈a,0<=k/\k < (N.length:Int))->
  Or lh [Y'2,Y'3,o4,I ((N.length:Int) - 1)] [ad.rows N.isEmpty 5 1 1 N.length (rows N),ad.sl false 1 eh (enc hold),ad.box [AV.t (T.ab 3 ed ds),o0,o1],cL,ad.sl false 1 false (dK (fi need a))]=some r->
  Or su [Y'2,Y'3,o4,o1,I (hold.length:Int),I (j:Int)] [ad.rows N.isEmpty 5 1 1 N.length (rows N),ad.sl false 1 eh (enc hold),ad.box [AV.t (T.ab 3 ed ds),o0,o1],cL,ad.sl false 1 false (dK need)]=some r:=by
 intro a;induction a with
 | nil=>
  intro j need g f h e b;have d:¬(j:Int) < (hold.length:Int):=by have:=bp g;omega
  have w:i64.wrap ((N.length:Int) - 1)= (N.length:Int) - 1:=wr (by omega);rw [fi] at b;refine ah ?_;rw [Ay];simp only [an,↓reduceIte,Int.reduceBEq,Int.reduceEq,d,kE,f,w];exact b
 | cons k a u=>
  intro j need g f h e b;obtain⟨n,x,o⟩:=bq g;have d:(j:Int) < (hold.length:Int):=by omega
  have h0: 0<=(j:Int):=by omega
  have v:=e k NN;have p: 0<=k/\k < (need.length:Int):=by omega
  have m:=Eu (l:=need) (i:=k.toNat) true (by omega);rw [fi] at b;have s:=u (j+1) (need.set k.toNat true) o (by simp [f]) h (λy q=>e y (NP _ q)) b;refine ah ?_;rw [Ay];simp only [an,↓reduceIte,Int.reduceBEq,Int.reduceEq,d,h0,and_self,aD,bM n,kE,p,m,next j (by omega)];exact s
theorem JT{N:List Nd}{eh:Bool}{hold:List Int}{ed:Bool}{ds:List (List T)}{i:Nat}{x:Nd}(m:N[i]? =some x)(z:x.ks.length<=1000)(B:N.length<=100000){r:List T}:∀(a:List Int) (j:Nat) (need:List Bool),x.ks.drop j=a->need.length=N.length->(∀k∈a,0<=k/\k < (N.length:Int))->
  Or lh [Y'2,Y'3,o4,I ((i:Int) - 1)] [ad.rows N.isEmpty 5 1 1 N.length (rows N),ad.sl false 1 eh (enc hold),ad.box [AV.t (T.ab 3 ed ds),o0,o1],cL,ad.sl false 1 false (dK (fi need a))]=some r->
  Or sr [Y'2,Y'3,o4,I (i:Int),AV.row (Id.c 0) i,I (x.ks.length:Int),I (j:Int)] [ad.rows N.isEmpty 5 1 1 N.length (rows N),ad.sl false 1 eh (enc hold),ad.box [AV.t (T.ab 3 ed ds),o0,o1],cL,ad.sl false 1 false (dK need)]=some r:=by
 have C:i < N.length:=(NQ.1 m).1;intro a;induction a with
 | nil=>
  intro j need g f e b;have d:¬(j:Int) < (x.ks.length:Int):=by have:=bp g;omega
  have w:i64.wrap ((i:Int) - 1)= (i:Int) - 1:=wr (by omega);rw [fi] at b;refine ah ?_;rw [Av];simp only [an,↓reduceIte,Int.reduceBEq,Int.reduceEq,d,w];exact b
 | cons k a u=>
  intro j need g f e b;obtain⟨n,A,o⟩:=bq g;have d:(j:Int) < (x.ks.length:Int):=by omega
  have h0: 0<=(j:Int):=by omega
  have v:=e k NN;have p: 0<=k/\k < (need.length:Int):=by omega
  have h:=Eu (l:=need) (i:=k.toNat) true (by omega);rw [fi] at b;have s:=u (j+1) (need.set k.toNat true) o (by simp [f]) (λy q=>e y (NP _ q)) b;refine ah ?_;rw [Av];simp only [an,↓reduceIte,Int.reduceBEq,Int.reduceEq,d,h0,and_self,ye m,aD,bM n,kE,p,h,next j (by omega)];exact s
theorem JP{N:List Nd}{eh:Bool}{hold:List Int}{ed:Bool}{ds:List (List T)}(s:N.length<=100000)(l:∀x∈N,x.ks.length<=1000)(m:∀(i:Nat) (x:Nd),N[i]? =some x->∀k∈x.ks,0<=k/\k < (i:Int)){r:List T}:∀(i:Nat) (need:List Bool),i<=N.length->need.length=N.length->
  Or lh [Y'2,Y'3,o4,I (-1)] [ad.rows N.isEmpty 5 1 1 N.length (rows N),ad.sl false 1 eh (enc hold),ad.box [AV.t (T.ab 3 ed ds),o0,o1],cL,ad.sl false 1 false (dK (back N need i))]=some r->
  Or lh [Y'2,Y'3,o4,I ((i:Int) - 1)] [ad.rows N.isEmpty 5 1 1 N.length (rows N),ad.sl false 1 eh (enc hold),ad.box [AV.t (T.ab 3 ed ds),o0,o1],cL,ad.sl false 1 false (dK need)]=some r:=by
 intro i;induction i with
 | zero=>intro need _ e a;exact a
 | succ i o=>
  intro need y e a;have g:i < N.length:=by omega
  have p:(((i+1:Nat):Int) - 1)= (i:Int):=by omega
  have j:(i:Int)>=0:=by omega
  have h0: 0<=(i:Int)/\(i:Int) < (need.length:Int):=by omega
  have q: 0<=(i:Int)/\(i:Int) < (N.length:Int):=by omega
  have b:=NZ g;have d:need[i]? =some (need.getD i false):=by rw [N8,NZ (by omega)];rfl
  have w:i64.wrap ((i:Int) - 1)= (i:Int) - 1:=wr (by omega);rw [p];rw [back] at a;cases f:need.getD i false with
  | false=>rw [f] at a d;have h:=o need (by omega) e (by simpa using a);refine ah ?_;rw [wc];simp only [an,↓reduceIte,Int.reduceBEq,Int.reduceEq,j,h0,and_self,kE,Oa,nL d,w];exact h
  | true=>
   rw [f] at a d;have n:N.getD i ⟨0,true,[],0,0,s0⟩=N[i]:=by rw [N8,b];rfl
   rw [n] at a;have h:=o (fi need N[i].ks) (by omega) (by rw [ug,e]) (by simpa using a);have v:=JT (eh:=eh) (hold:=hold) (ed:=ed) (ds:=ds) b (l _ (P8 g)) s N[i].ks 0 need rfl e (λk u=>by have:=m i _ b k u;omega) h;refine ah ?_;rw [wc];simp only [an,↓reduceIte,Int.reduceBEq,Int.reduceEq,j,h0,q,and_self,kE,Oa,nL d,aS,yf b,DE,ye b,aD];exact v
abbrev GR(L:List (Nd×Bool))(e:Bool)(n:Nat):ad:=ad.rows e 5 1 1 n (dR 0 L)
theorem tL{L:List (Nd×Bool)}{i:Nat}{p:Nd×Bool}(h:L[i]? =some p):(dR 0 L)[i]? =some (jS i p):=by have:=DI (k:=0) h;rwa [Ov] at this
theorem po{L:List (Nd×Bool)}{i:Nat}{x:Nd}(h:L[i]? =some (x,false)):cA i (dR 0 L)=some (x.ek,enc x.ks):=by have:=DH (k:=0) h;rwa [Ov] at this
theorem B0{ks:List Int}{L:List (Nd×Bool)}{i:Nat}{x:Nd}{g:Bool}(h:L[i]? =some (x,g)):cR i (some (x.ek,enc ks)) (dR 0 L)=dR 0 (L.set i (⟨x.op,x.ek,ks,x.n,x.d,x.nm⟩,false)):=by have:=DK (ks:=ks) (k:=0) h;rwa [Ov] at this
theorem BZ{L:List (Nd×Bool)}{i:Nat}{x:Nd}{g:Bool}(h:L[i]? =some (x,g)):cR i none (dR 0 L)=dR 0 (L.set i (x,true)):=by have:=DJ (k:=0) h;rwa [Ov] at this
theorem DC(k:Nat)(p:Nd×Bool):(jS k p).n=k:=rfl
theorem uM(k:Nat)(p:Nd×Bool):(jS k p).cs= [ti p.1.op,T.ao,ti p.1.n,ti p.1.d,T.str p.1.nm]:=rfl
abbrev dc(ed:Bool)(ds:List (List T))(x y:AV):ad:=ad.box [AV.t (T.ab 3 ed ds),x,y]
def gw(x:Nd):List T:= [ti x.op,T.ab 1 x.ek (enc x.ks),ti x.n,ti x.d,T.str x.nm]
theorem CP{eh:Bool}{hold:List Int}{ed ee:Bool}{ds:List (List T)}{need:List Bool}{to:List Int}{i n:Nat}{x:Nd}(E:n<=100000)(C:x.ks.length<=1000)(y:∀k∈x.ks,0<=k/\k < (to.length:Int)){outB:AV}{more:List ad}{r:List T}
  (step:∀(L:List (Nd×Bool)) (j:Nat) (k v:Int) (a:List Int),(j:Int) < (x.ks.length:Int)->L[i]? =some (⟨x.op,x.ek,a,x.n,x.d,x.nm⟩,false)->a[j]? =some k->(0<=k/\k < (to.length:Int))->to[k.toNat]? =some v->j < a.length->a.length=x.ks.length->
   Or gm [Y'2,Y'3,o4,o5,Y'6,Y'7,o0,I (n:Int),I (i:Int),AV.row (Id.c 0) i,I (x.ks.length:Int),I ((j+1:Nat):Int)] ([GR (L.set i (⟨x.op,x.ek,a.set j v,x.n,x.d,x.nm⟩,false)) ee n,ad.sl false 1 eh (enc hold),dc ed ds o0 o1,cL,ad.sl false 1 false (dK need),ad.sl false 1 false (enc to),dc ed ds outB (AV.t (T.ae true)),ad.box [I x.op,AV.row (Id.c 0) i,I x.n,I x.d,AV.t (T.str x.nm)]] ++more)=some r->
   Or gm [Y'2,Y'3,o4,o5,Y'6,Y'7,o0,I (n:Int),I (i:Int),AV.row (Id.c 0) i,I (x.ks.length:Int),I (j:Int)] ([GR L ee n,ad.sl false 1 eh (enc hold),dc ed ds o0 o1,cL,ad.sl false 1 false (dK need),ad.sl false 1 false (enc to),dc ed ds outB (AV.t (T.ae true)),ad.box [I x.op,AV.row (Id.c 0) i,I x.n,I x.d,AV.t (T.str x.nm)]] ++more)=some r):
  ∀(b:List Int) (j:Nat) (L:List (Nd×Bool)) (a:List Int),x.ks.drop j=b->j<=x.ks.length->i < L.length->a.length=j->L[i]? =some (⟨x.op,x.ek,a++b,x.n,x.d,x.nm⟩,false)->
   Or gm [Y'2,Y'3,o4,o5,Y'6,Y'7,o0,I (n:Int),I (i:Int),AV.row (Id.c 0) i,I (x.ks.length:Int),I (x.ks.length:Int)] ([GR (L.set i (⟨x.op,x.ek,a++b.map (λk=>to.getD k.toNat 0),x.n,x.d,x.nm⟩,false)) ee n,ad.sl false 1 eh (enc hold),dc ed ds o0 o1,cL,ad.sl false 1 false (dK need),ad.sl false 1 false (enc to),dc ed ds outB (AV.t (T.ae true)),ad.box [I x.op,AV.row (Id.c 0) i,I x.n,I x.d,AV.t (T.str x.nm)]] ++more)=some r->
   Or gm [Y'2,Y'3,o4,o5,Y'6,Y'7,o0,I (n:Int),I (i:Int),AV.row (Id.c 0) i,I (x.ks.length:Int),I (j:Int)] ([GR L ee n,ad.sl false 1 eh (enc hold),dc ed ds o0 o1,cL,ad.sl false 1 false (dK need),ad.sl false 1 false (enc to),dc ed ds outB (AV.t (T.ae true)),ad.box [I x.op,AV.row (Id.c 0) i,I x.n,I x.d,AV.t (T.str x.nm)]] ++more)=some r:=by
 intro b;induction b with
 | nil=>
  intro j L a g w f e l h;have q:j=x.ks.length:=by have:=bp g;omega
  have m:L.set i (⟨x.op,x.ek,a++ ([]:List Int).map (λk=>to.getD k.toNat 0),x.n,x.d,x.nm⟩,false)=L:=by have u:=(NQ.1 l).2;rw [OV,<-u,List.set_getElem_self]
  rw [m] at h;rw [q];exact h
 | cons k b B=>
  intro j L a g w f e l h;obtain⟨s,D,o⟩:=bq g;have p:=y k (NU s);have A:to[k.toNat]? =some (to.getD k.toNat 0):=by rw [N8,NZ (by omega)];rfl
  have z:=zH o (by omega);refine step L j k (to.getD k.toNat 0) (a++k::b) (by omega) l (by rw [OH (by omega),e,Qs];rfl) p A (by simp;omega) (by simp;omega) ?_;have hs:(a++k::b).set j (to.getD k.toNat 0)= (a++ [to.getD k.toNat 0])++b:=by rw [List.set_append_right _ _ (by omega),e,Qs,Qe,Og];rfl
  rw [hs];refine B (j+1) _ (a++ [to.getD k.toNat 0]) o (by omega) (by simpa using f) (by simp [e]) ?_ ?_
  .rw [P1 f]
  .rw [List.set_set];rw [Oq] at h;simpa only [Og,Ol] using h
def eV(need:List Bool)(i:Nat)(N:List Nd)(D:Nat->Nd):List (Nd×Bool):=N.mapIdx λj x=>if j < i then(if need.getD j false then(D j,true) else(x,false)) else(x,false)
theorem xf(need:List Bool)(i:Nat)(N:List Nd)(D:Nat->Nd):(eV need i N D).length=N.length:=by simp [eV]
theorem xe{need:List Bool}{i j:Nat}{N:List Nd}{D:Nat->Nd}{x:Nd}(h:N[j]? =some x):(eV need i N D)[j]? =some (if j < i then(if need.getD j false then(D j,true) else(x,false)) else(x,false)):=by unfold eV;rw [PC,h];rfl
theorem B3{need:List Bool}{i:Nat}{N:List Nd}{D:Nat->Nd}(h:need.getD i false=false):eV need (i+1) N D=eV need i N D:=by
 unfold eV;refine O5 λj=> ?_;rw [PC,PC];cases N[j]? with
 | none=>rfl
 | some x=>
  simp only [Po];by_cases e:j=i
  .subst e;rw [if_pos (P6 _),h,if_neg (Pa _)];rfl
  .by_cases a:j < i
   .rw [if_pos a,if_pos (by omega)]
   .rw [if_neg a,if_neg (by omega)]
theorem B4{need:List Bool}{i:Nat}{N:List Nd}{D a:Nat->Nd}{y:Nd}(h:need.getD i false=true)(d:i < N.length)(c:a=λj=>if j=i then y else D j):eV need (i+1) N a= (eV need i N D).set i (y,true):=by
 refine O5 λj=> ?_;by_cases e:j=i
 .subst e;rw [P1 (by rw [xf];exact d),xe (NZ d),if_pos (P6 _),h,c];simp
 .rw [List.getElem?_set_ne (Qm e)];unfold eV;rw [PC,PC];cases N[j]? with
  | none=>rfl
  | some x=>
   simp only [Po];by_cases b:j < i
   .rw [if_pos b,if_pos (by omega),c];simp only [if_neg e]
   .rw [if_neg b,if_neg (by omega)]
theorem II(need:List Bool)(N:List Nd)(D:Nat->Nd):eV need 0 N D=N.map λx=>(x,false):=by unfold eV;refine O5 λj=> ?_;rw [PC,OQ];cases N[j]? <;> simp
open Go Go.Aev Go.IntKind
abbrev MF(L:List (Nd×Bool))(ee eh ed:Bool)(n:Nat)(hold:List Int)(ds:List (List T))(need:List Bool)(to:List Int)(x:AV):List ad:=
 [GR L ee n,ad.sl false 1 eh (enc hold),dc ed ds o0 o1,cL,ad.sl false 1 false (dK need),ad.sl false 1 false (enc to),dc ed ds x (AV.t (T.ae true))]
theorem IL{eh ee ed:Bool}{hold:List Int}{ds:List (List T)}{need:List Bool}{to:List Int}{i n:Nat}{x:Nd}(z:n<=100000)(m:x.ks.length<=1000)(w:∀k∈x.ks,0<=k/\k < (to.length:Int)){L:List (Nd×Bool)}(g:i < L.length)(s:L[i]? =some (x,false)){r:List T}
  (e:Or ij [Y'2,Y'3,o4,o5,Y'6,o0,I (n:Int),I ((i+1:Nat):Int)] (MF (L.set i (⟨x.op,x.ek,x.ks.map λk=>to.getD k.toNat 0,x.n,x.d,x.nm⟩,true)) ee eh ed n hold ds need to V'7++ [ad.sl false 5 false [gw ⟨x.op,x.ek,x.ks.map λk=>to.getD k.toNat 0,x.n,x.d,x.nm⟩]])=some r) (B:i<=100000):
  Or gm [Y'2,Y'3,o4,o5,Y'6,Y'7,o0,I (n:Int),I (i:Int),AV.row (Id.c 0) i,I (x.ks.length:Int),I 0] (MF L ee eh ed n hold ds need to (AV.t (T.ae true))++ [ad.box [I x.op,AV.row (Id.c 0) i,I x.n,I x.d,AV.t (T.str x.nm)]])=some r:=by
 refine CP (need:=need) (outB:=AV.t (T.ae true)) (more:= []) z m w (λL j k v o p f l h A u y e=> ?_) x.ks 0 L [] rfl (OT _) g rfl s ?_
 .have h0: 0<=(j:Int):=by omega
  have q:(j:Int) < (o.length:Int):=by omega
  refine ah ?_;show au ai ann Or gm _ [GR L ee n,ad.sl false 1 eh (enc hold),dc ed ds o0 o1,cL,ad.sl false 1 false (dK need),ad.sl false 1 false (enc to),dc ed ds (AV.t (T.ae true)) (AV.t (T.ae true)),ad.box [I x.op,AV.row (Id.c 0) i,I x.n,I x.d,AV.t (T.str x.nm)]]=_;rw [Aw];simp only [an,↓reduceIte,Int.reduceBEq,Int.reduceEq,p,h0,and_self,po f,aD,q,eK l,h,eK A,Oa,uZ v u,next j (by omega)];have:=B0 (ks:=o.set j v) f;rw [this];exact e
 .have a:(L.set i (⟨x.op,x.ek,[] ++x.ks.map (λk=>to.getD k.toNat 0),x.n,x.d,x.nm⟩,false))[i]? =some (⟨x.op,x.ek,x.ks.map λk=>to.getD k.toNat 0,x.n,x.d,x.nm⟩,false):=by
   rw [P1 g];rfl
  have b:=BZ a;rw [List.set_set] at b;refine ah ?_;show au ai ann Or gm _ [GR (L.set i (⟨x.op,x.ek,[] ++x.ks.map (λk=>to.getD k.toNat 0),x.n,x.d,x.nm⟩,false)) ee n,ad.sl false 1 eh (enc hold),dc ed ds o0 o1,cL,ad.sl false 1 false (dK need),ad.sl false 1 false (enc to),dc ed ds (AV.t (T.ae true)) (AV.t (T.ae true)),ad.box [I x.op,AV.row (Id.c 0) i,I x.n,I x.d,AV.t (T.str x.nm)]]=_;rw [Aw];simp only [an,↓reduceIte,Int.reduceBEq,Int.reduceEq,Ox,decide_false,po a,b,next i (by omega)];exact e
theorem IM{eh ee ed:Bool}{hold:List Int}{ds:List (List T)}{need:List Bool}{to:List Int}{i n:Nat}{x:Nd}{out:List Nd}(C:out.length<=100000)(z:n<=100000)(m:x.ks.length<=1000)(w:∀k∈x.ks,0<=k/\k < (to.length:Int)){L:List (Nd×Bool)}(g:i < L.length)(s:L[i]? =some (x,false)){r:List T}
  (a:Or ij [Y'2,Y'3,o4,o5,Y'6,o0,I (n:Int),I ((i+1:Nat):Int)] (MF (L.set i (⟨x.op,x.ek,x.ks.map λk=>to.getD k.toNat 0,x.n,x.d,x.nm⟩,true)) ee eh ed n hold ds need to V'7++ [ad.sl false 5 false ((out++ [(⟨x.op,x.ek,x.ks.map λk=>to.getD k.toNat 0,x.n,x.d,x.nm⟩:Nd)]).map gw)])=some r) (B:i<=100000):
  Or gm [Y'2,Y'3,o4,o5,Y'6,Y'7,o0,I (n:Int),I (i:Int),AV.row (Id.c 0) i,I (x.ks.length:Int),I 0] (MF L ee eh ed n hold ds need to V'8++ [ad.box [I x.op,AV.row (Id.c 0) i,I x.n,I x.d,AV.t (T.str x.nm)],ad.sl false 5 false (out.map gw)])=some r:=by
 refine CP (need:=need) (outB:=V'8) (more:= [ad.sl false 5 false (out.map gw)]) z m w (λL j k v o p f l h A u y a=> ?_) x.ks 0 L [] rfl (OT _) g rfl s ?_
 .have h0: 0<=(j:Int):=by omega
  have q:(j:Int) < (o.length:Int):=by omega
  refine ah ?_;show au ai ann Or gm _ [GR L ee n,ad.sl false 1 eh (enc hold),dc ed ds o0 o1,cL,ad.sl false 1 false (dK need),ad.sl false 1 false (enc to),dc ed ds V'8 (AV.t (T.ae true)),ad.box [I x.op,AV.row (Id.c 0) i,I x.n,I x.d,AV.t (T.str x.nm)],ad.sl false 5 false (out.map gw)]=_;rw [Ax];simp only [an,↓reduceIte,Int.reduceBEq,Int.reduceEq,p,h0,and_self,po f,aD,q,eK l,h,eK A,Oa,uZ v u,next j (by omega)];have:=B0 (ks:=o.set j v) f;rw [this];exact a
 .have b:(L.set i (⟨x.op,x.ek,[] ++x.ks.map (λk=>to.getD k.toNat 0),x.n,x.d,x.nm⟩,false))[i]? =some (⟨x.op,x.ek,x.ks.map λk=>to.getD k.toNat 0,x.n,x.d,x.nm⟩,false):=by
   rw [P1 g];rfl
  have e:=BZ b;rw [List.set_set] at e;rw [PX] at a;refine ah ?_;show au ai ann Or gm _ [GR (L.set i (⟨x.op,x.ek,[] ++x.ks.map (λk=>to.getD k.toNat 0),x.n,x.d,x.nm⟩,false)) ee n,ad.sl false 1 eh (enc hold),dc ed ds o0 o1,cL,ad.sl false 1 false (dK need),ad.sl false 1 false (enc to),dc ed ds V'8 (AV.t (T.ae true)),ad.box [I x.op,AV.row (Id.c 0) i,I x.n,I x.d,AV.t (T.str x.nm)],ad.sl false 5 false (out.map gw)]=_;rw [Ax];simp only [an,↓reduceIte,Int.reduceBEq,Int.reduceEq,Ox,decide_false,po b,e,next i (by omega),O7,NW,cE (show out.length+1<=1000000 by omega)];exact a
theorem Cq{need:List Bool}{i:Nat}{x:Nd}{r:List Nd}{to:List Int}{out:List Nd}(h:need.getD i false=true):eQ need i (x::r) to out=eQ need (i+1) r (to.set i (out.length:Int)) (out++ [⟨x.op,x.ek,x.ks.map λk=>(to.set i (out.length:Int)).getD k.toNat 0,x.n,x.d,x.nm⟩]):=by rw [eQ,if_pos h]
theorem Cp{need:List Bool}{i:Nat}{x:Nd}{r:List Nd}{to:List Int}{out:List Nd}(h:need.getD i false=false):eQ need i (x::r) to out=eQ need (i+1) r to out:=by rw [eQ,if_neg (by rw [h];simp)]
theorem JR{N:List Nd}{eh ee ed:Bool}{hold:List Int}{ds:List (List T)}{need:List Bool}(J:N.length<=90000)(v:∀x∈N,x.ks.length<=1000)(w:∀(i:Nat) (x:Nd),N[i]? =some x->∀k∈x.ks,0<=k/\k < (i:Int))(G:need.length=N.length){r:List T}:∀(rest:List Nd) (i:Nat) (to:List Int) (out:List Nd) (D:Nat->Nd),N.drop i=rest->i<=N.length->to.length=N.length->out.length<=i->
  (∀L,Or fy [Y'2,V'3,Y'4,o1,I (hold.length:Int),I 0] [GR L ee N.length,ad.sl false 1 eh (enc hold),cL,ad.sl false 1 false (enc (eQ need i rest to out).1),dc ed ds V'5 (AV.t (T.ae true)),ad.sl false 5 false ((eQ need i rest to out).2.map gw)]=some r)->
  Or ij [Y'2,Y'3,o4,o5,Y'6,o0,I (N.length:Int),I (i:Int)] (MF (eV need i N D) ee eh ed N.length hold ds need to V'7++ [ad.sl false 5 false (out.map gw)])=some r:=by
 intro rest;induction rest with
 | nil=>
  intro i to out D g C f z b;have m:¬(i:Int) < (N.length:Int):=by have:=bp g;omega
  refine ah ?_;show au ai ann Or ij _ [GR (eV need i N D) ee N.length,ad.sl false 1 eh (enc hold),dc ed ds o0 o1,cL,ad.sl false 1 false (dK need),ad.sl false 1 false (enc to),dc ed ds V'7 (AV.t (T.ae true)),ad.sl false 5 false (out.map gw)]=_;rw [vZ];simp only [an,↓reduceIte,Int.reduceBEq,Int.reduceEq,m,aD];exact b _
 | cons x rest A=>
  intro i to out D g C f z b;obtain⟨q,H,s⟩:=bq g;have m:(i:Int) < (N.length:Int):=by omega
  have h0: 0<=(i:Int):=by omega
  have o:need[i]? =some (need.getD i false):=by rw [N8,NZ (by omega)];rfl
  have p:(eV need i N D)[i]? =some (x,false):=by rw [xe q,if_neg (Pa _)]
  have e:=xf need i N D;have u:(i:Int) < (need.length:Int):=by omega
  cases a:need.getD i false with
  | false=>rw [a] at o;rw [Cp a] at b;have h:=A (i+1) to out D s (by omega) f (by omega) b;rw [B3 a] at h;refine ah ?_;show au ai ann Or ij _ [GR (eV need i N D) ee N.length,ad.sl false 1 eh (enc hold),dc ed ds o0 o1,cL,ad.sl false 1 false (dK need),ad.sl false 1 false (enc to),dc ed ds V'7 (AV.t (T.ae true)),ad.sl false 5 false (out.map gw)]=_;rw [vZ];simp only [an,↓reduceIte,Int.reduceBEq,Int.reduceEq,m,h0,and_self,rP,e,Oa,tL p,uM,kE,u,nL o,NS,next i (by omega)];exact h
  | true=>
   rw [a] at o;rw [Cq a] at b;have B:(i:Int) < (to.length:Int):=by omega
   have y:=w i x q;have h:=A (i+1) (to.set i (out.length:Int)) (out++ [⟨x.op,x.ek,x.ks.map λk=>(to.set i (out.length:Int)).getD k.toNat 0,x.n,x.d,x.nm⟩]) (λj=>if j=i then⟨x.op,x.ek,x.ks.map λk=>(to.set i (out.length:Int)).getD k.toNat 0,x.n,x.d,x.nm⟩ else D j) s (by omega) (by simp [f]) (by simp;omega) b;rw [B4 a (by omega) rfl] at h;have F:=IM (eh:=eh) (ee:=ee) (ed:=ed) (hold:=hold) (ds:=ds) (need:=need) (to:=to.set i (out.length:Int)) (i:=i) (n:=N.length) (x:=x) (out:=out) (by omega) (by omega) (v x (NU q)) (λk E=>by have:=y k E;rw [Qd];omega) (L:=eV need i N D) (by rw [e];omega) p h (by omega);refine ah ?_;show au ai ann Or ij _ [GR (eV need i N D) ee N.length,ad.sl false 1 eh (enc hold),dc ed ds o0 o1,cL,ad.sl false 1 false (dK need),ad.sl false 1 false (enc to),dc ed ds V'7 (AV.t (T.ae true)),ad.sl false 5 false (out.map gw)]=_;rw [vZ];simp only [an,↓reduceIte,Int.reduceBEq,Int.reduceEq,m,h0,and_self,rP,e,Oa,tL p,uM,DC,kE,u,nL o,NR,aD,B,O7,uZ (l:=to) (i:=i) (out.length:Int) (by omega),po p];exact F
def LN(l:List Nd):T:=if l.isEmpty then T.ae true else T.ab 5 false (ba l)
theorem I4(l:List Nd):(LN l).ak 5=some (l.isEmpty,ba l):=by cases l <;> rfl
abbrev FB(L:List (Nd×Bool))(ee eh ed:Bool)(n:Nat)(hold:List Int)(ds:List (List T))(to:List Int)(out:List Nd):List ad:=
 match out with
 | []=> [GR L ee n,ad.sl false 1 eh (enc hold),cL,ad.sl false 1 false (enc to),dc ed ds (AV.t (T.ae true)) (AV.t (T.ae true))]
 | x::r=> [GR L ee n,ad.sl false 1 eh (enc hold),cL,ad.sl false 1 false (enc to),dc ed ds V'5 (AV.t (T.ae true)),ad.sl false 5 false ((x::r).map gw)]
theorem xq{need:List Bool}:∀(rest:List Nd) (i:Nat) (to:List Int) (out:List Nd),out≠[]->(eQ need i rest to out).2≠[]
 | [],_,_,_,h=>h
 | x::rest,i,to,out,h=>by
  rw [eQ];split
  .exact xq rest _ _ _ (by simp)
  .exact xq rest _ _ _ h
theorem JQ{N:List Nd}{eh ee ed:Bool}{hold:List Int}{ds:List (List T)}{need:List Bool}(H:N.length<=90000)(y:∀x∈N,x.ks.length<=1000)(z:∀(i:Nat) (x:Nd),N[i]? =some x->∀k∈x.ks,0<=k/\k < (i:Int))(F:need.length=N.length){r:List T}:∀(rest:List Nd) (i:Nat) (to:List Int) (D:Nat->Nd),N.drop i=rest->i<=N.length->to.length=N.length->
  (∀L,Or fy [Y'2,V'3,Y'4,o1,I (hold.length:Int),I 0] (FB L ee eh ed N.length hold ds (eQ need i rest to []).1 (eQ need i rest to []).2)=some r)->
  Or ij [Y'2,Y'3,o4,o5,Y'6,o0,I (N.length:Int),I (i:Int)] (MF (eV need i N D) ee eh ed N.length hold ds need to (AV.t (T.ae true)))=some r:=by
 intro rest;induction rest with
 | nil=>
  intro i to D g J s m;have f:¬(i:Int) < (N.length:Int):=by have:=bp g;omega
  refine ah ?_;rw [vY];simp only [an,↓reduceIte,Int.reduceBEq,Int.reduceEq,f,aD];exact m _
 | cons x rest O=>
  intro i to D g J s m;obtain⟨A,P,B⟩:=bq g;have f:(i:Int) < (N.length:Int):=by omega
  have h0: 0<=(i:Int):=by omega
  have v:need[i]? =some (need.getD i false):=by rw [N8,NZ (by omega)];rfl
  have w:(eV need i N D)[i]? =some (x,false):=by rw [xe A,if_neg (Pa _)]
  have p:=xf need i N D;have o:(i:Int) < (need.length:Int):=by omega
  cases e:need.getD i false with
  | false=>rw [e] at v;rw [Cp e] at m;have u:=O (i+1) to D B (by omega) s m;rw [B3 e] at u;refine ah ?_;rw [vY];simp only [an,↓reduceIte,Int.reduceBEq,Int.reduceEq,f,h0,and_self,rP,p,Oa,tL w,uM,kE,o,nL v,NS,next i (by omega)];exact u
  | true=>
   rw [e] at v;rw [Cq e] at m;have G:(i:Int) < (to.length:Int):=by omega
   have C:=z i x A;have u:=JR (eh:=eh) (ee:=ee) (ed:=ed) (hold:=hold) (ds:=ds) (need:=need) H y z F (r:=r) rest (i+1) (to.set i ((0:Nat):Int)) [⟨x.op,x.ek,x.ks.map λk=>(to.set i ((0:Nat):Int)).getD k.toNat 0,x.n,x.d,x.nm⟩] (λj=>if j=i then⟨x.op,x.ek,x.ks.map λk=>(to.set i ((0:Nat):Int)).getD k.toNat 0,x.n,x.d,x.nm⟩ else D j) B (by omega) (by simp [s]) (by simp) (λL=>by
    have h:=m L;have E:=xq (need:=need) rest (i+1) (to.set i ((0:Nat):Int)) [⟨x.op,x.ek,x.ks.map λk=>(to.set i ((0:Nat):Int)).getD k.toNat 0,x.n,x.d,x.nm⟩] (by simp);simp only [N7,PA] at h;revert h E;generalize (eQ need (i+1) rest (to.set i ((0:Nat):Int)) [⟨x.op,x.ek,x.ks.map λk=>(to.set i ((0:Nat):Int)).getD k.toNat 0,x.n,x.d,x.nm⟩]).2=q;intro f o;cases q with
    | nil=>first | exact absurd rfl f | exact absurd rfl o
    | cons a b=>first | exact f | exact o)
   rw [B4 e (by omega) rfl] at u;have M:=IL (eh:=eh) (ee:=ee) (ed:=ed) (hold:=hold) (ds:=ds) (need:=need) (to:=to.set i ((0:Nat):Int)) (i:=i) (n:=N.length) (x:=x) (by omega) (y x (NU A)) (λk K=>by have:=C k K;rw [Qd];omega) (L:=eV need i N D) (by rw [p];omega) w u (by omega);refine ah ?_;rw [vY];simp only [an,↓reduceIte,Int.reduceBEq,Int.reduceEq,f,h0,and_self,rP,p,Oa,tL w,uM,DC,kE,o,nL v,NR,aD,G,uZ (l:=to) (i:=i) (0:Int) (by omega),po w];exact M
theorem JS{L:List (Nd×Bool)}{ee eh ed:Bool}{n:Nat}{hold:List Int}{ds:List (List T)}{to:List Int}{out:List Nd}(hl:hold.length<=1000)(o:∀k∈hold,0<=k/\k < (to.length:Int)):
  Or fy [Y'2,V'3,Y'4,o1,I (hold.length:Int),I 0] (FB L ee eh ed n hold ds to out)=some [T.ab 3 ed ds,LN out,LO (hold.map λk=>to.getD k.toNat 0)]:=by
 have p:∀k∈hold,to[k.toNat]? =some (to.getD k.toNat 0):=λk hm=>by have:=o k hm;rw [N8,NZ (by omega)];rfl
 cases out with
 | nil=>
  have u:∀(a:List Int) (j:Nat) (acc:List Int),hold.drop j=a->j<=hold.length->acc.length=j->
    Or fy [Y'2,V'3,Y'4,o1,I (hold.length:Int),I (j:Int)] [GR L ee n,ad.sl false 1 eh (enc hold),cL,ad.sl false 1 false (enc to),dc ed ds (AV.t (T.ae true)) V'5,ad.sl false 1 false (enc acc)]=some [T.ab 3 ed ds,T.ae true,T.ab 1 false (enc (acc++a.map λk=>to.getD k.toNat 0))]:=by
   intro a;induction a with
   | nil=>
    intro j acc g r e;have d:¬(j:Int) < (hold.length:Int):=by have:=bp g;omega
    refine ah ?_;rw [AB];simp only [an,↓reduceIte,Int.reduceBEq,Int.reduceEq,d,OV,Oj]
   | cons k a s=>
    intro j acc g r e;obtain⟨b,w,q⟩:=bq g;have d:(j:Int) < (hold.length:Int):=by omega
    have h0: 0<=(j:Int):=by omega
    have h:=o k (NU b);have i:=p k (NU b);have m:=s (j+1) (acc++ [to.getD k.toNat 0]) q (by omega) (by simp [e]);simp only [Og,Ol] at m;rw [Oq];refine ah ?_;rw [AB];simp only [an,↓reduceIte,Int.reduceBEq,Int.reduceEq,d,h0,and_self,aD,bM b,h,eK i,NW,cE (show acc.length+1<=1000000 by omega),next j (by omega),dX];exact m
  cases f:hold with
  | nil=>refine ah ?_;show au ai ann Or fy _ [GR L ee n,ad.sl false 1 eh (enc []),cL,ad.sl false 1 false (enc to),dc ed ds (AV.t (T.ae true)) (AV.t (T.ae true))]=_;rw [Az];simp only [an,↓reduceIte,Int.reduceBEq,Int.reduceEq,N7,On,Ox,decide_false];rfl
  | cons k a=>
   have h:=o k (by rw [f];exact NN);have i:=p k (by rw [f];exact NN);have m:=u a 1 [to.getD k.toNat 0] (by rw [f];rfl) (by rw [f];simp) rfl;rw [f] at m;have d:(0:Int) < (((k::a).length:Nat):Int):=by simp
   have h0:(0:Int)<=0:=by omega
   have b:(enc (k::a))[(0:Int).toNat]? =some [ti k]:=rfl;have v:i64.wrap (0+1)= ((1:Nat):Int):=by decide
   refine ah ?_;show au ai ann Or fy _ [GR L ee n,ad.sl false 1 eh (enc (k::a)),cL,ad.sl false 1 false (enc to),dc ed ds (AV.t (T.ae true)) (AV.t (T.ae true))]=_;rw [Az];simp only [an,↓reduceIte,Int.reduceBEq,Int.reduceEq,d,h0,and_self,aD,b,h,eK i,v];exact m
 | cons x xs=>
  have u:∀(a:List Int) (j:Nat) (acc:List Int),hold.drop j=a->j<=hold.length->acc.length=j->
    Or fy [Y'2,V'3,Y'4,o1,I (hold.length:Int),I (j:Int)] [GR L ee n,ad.sl false 1 eh (enc hold),cL,ad.sl false 1 false (enc to),dc ed ds V'5 V'6,ad.sl false 5 false ((x::xs).map gw),ad.sl false 1 false (enc acc)]=some [T.ab 3 ed ds,T.ab 5 false ((x::xs).map gw),T.ab 1 false (enc (acc++a.map λk=>to.getD k.toNat 0))]:=by
   intro a;induction a with
   | nil=>
    intro j acc g r e;have d:¬(j:Int) < (hold.length:Int):=by have:=bp g;omega
    refine ah ?_;rw [AE];simp only [an,↓reduceIte,Int.reduceBEq,Int.reduceEq,d,OV,Oj]
   | cons k a s=>
    intro j acc g r e;obtain⟨b,w,q⟩:=bq g;have d:(j:Int) < (hold.length:Int):=by omega
    have h0: 0<=(j:Int):=by omega
    have h:=o k (NU b);have i:=p k (NU b);have m:=s (j+1) (acc++ [to.getD k.toNat 0]) q (by omega) (by simp [e]);simp only [Og,Ol] at m;rw [Oq (l:=a)];refine ah ?_;rw [AE];simp only [an,↓reduceIte,Int.reduceBEq,Int.reduceEq,d,h0,and_self,aD,bM b,h,eK i,NW,cE (show acc.length+1<=1000000 by omega),next j (by omega),dX];exact m
  cases f:hold with
  | nil=>refine ah ?_;show au ai ann Or fy _ [GR L ee n,ad.sl false 1 eh (enc []),cL,ad.sl false 1 false (enc to),dc ed ds V'5 (AV.t (T.ae true)),ad.sl false 5 false ((x::xs).map gw)]=_;rw [AD];simp only [an,↓reduceIte,Int.reduceBEq,Int.reduceEq,N7,On,Ox,decide_false];rfl
  | cons k a=>
   have h:=o k (by rw [f];exact NN);have i:=p k (by rw [f];exact NN);have m:=u a 1 [to.getD k.toNat 0] (by rw [f];rfl) (by rw [f];simp) rfl;rw [f] at m;have d:(0:Int) < (((k::a).length:Nat):Int):=by simp
   have h0:(0:Int)<=0:=by omega
   have b:(enc (k::a))[(0:Int).toNat]? =some [ti k]:=rfl;have v:i64.wrap (0+1)= ((1:Nat):Int):=by decide
   refine ah ?_;show au ai ann Or fy _ [GR L ee n,ad.sl false 1 eh (enc (k::a)),cL,ad.sl false 1 false (enc to),dc ed ds V'5 (AV.t (T.ae true)),ad.sl false 5 false ((x::xs).map gw)]=_;rw [AD];simp only [an,↓reduceIte,Int.reduceBEq,Int.reduceEq,d,h0,and_self,aD,b,h,eK i,v];exact m
theorem xp{need:List Bool}:∀(rest:List Nd) (i:Nat) (to:List Int) (out:List Nd),(eQ need i rest to out).1.length=to.length
 | [],_,_,_=>rfl
 | x::rest,i,to,out=>by
  rw [eQ];split
  .rw [xp rest];simp
  .exact xp rest _ _ _
theorem LI{N:List Nd}{eh ed:Bool}{hold:List Int}{ds:List (List T)}(p:N.length<=90000)(hl:hold.length<=1000)(d:∀x∈N,x.ks.length<=1000)(e:∀(i:Nat) (x:Nd),N[i]? =some x->∀k∈x.ks,0<=k/\k < (i:Int))(l:∀k∈hold,0<=k/\k < (N.length:Int)):
  Or (.call 34) [AV.agg [AV.t (T.ab 3 ed ds),o0,o1]] [ad.rows N.isEmpty 5 1 1 N.length (rows N),ad.sl false 1 eh (enc hold)]=some [T.ab 3 ed ds,LN (ov N hold).1,LO (ov N hold).2]:=by
 unfold ov;dsimp only;have g:(fi (List.replicate N.length false) hold).length=N.length:=by rw [ug,PN]
 have b:(back N (fi (List.replicate N.length false) hold) N.length).length=N.length:=by rw [zg,g]
 have f:=λL=>JS (L:=L) (ee:=N.isEmpty) (eh:=eh) (ed:=ed) (n:=N.length) (hold:=hold) (ds:=ds) (to:=(eQ (back N (fi (List.replicate N.length false) hold) N.length) 0 N (List.replicate N.length 0) []).1) (out:=(eQ (back N (fi (List.replicate N.length false) hold) N.length) 0 N (List.replicate N.length 0) []).2) hl (λk hm=>by rw [xp,PN];exact l k hm);have h:=JQ (eh:=eh) (ee:=N.isEmpty) (ed:=ed) (hold:=hold) (ds:=ds) p d e b N 0 (List.replicate N.length 0) (λ_=>⟨0,true,[],0,0,s0⟩) rfl (OT _) (by simp) f;rw [II] at h;have j:Or lh [Y'2,Y'3,o4,I (-1)] [ad.rows N.isEmpty 5 1 1 N.length (rows N),ad.sl false 1 eh (enc hold),ad.box [AV.t (T.ab 3 ed ds),o0,o1],cL,ad.sl false 1 false (dK (back N (fi (List.replicate N.length false) hold) N.length))]=some [T.ab 3 ed ds,LN (eQ (back N (fi (List.replicate N.length false) hold) N.length) 0 N (List.replicate N.length 0) []).2,LO (hold.map λk=>(eQ (back N (fi (List.replicate N.length false) hold) N.length) 0 N (List.replicate N.length 0) []).1.getD k.toNat 0)]:=by
  have o:¬(-1:Int)>=0:=by omega
  have hm:kQ (N.length:Int) (N.length:Int)=some ():=by unfold kQ;rw [if_pos ⟨by omega,by omega,by unfold kN;omega⟩]
  have a:List.replicate ((N.length:Int)).toNat [ti 0]=enc (List.replicate N.length 0):=by simp [enc]
  refine ah ?_;rw [wc];simp only [an,↓reduceIte,Int.reduceBEq,Int.reduceEq,o,kE,b,hm,a,aS];simp only [MF,GR,DF] at h;exact h
 have q:=JP (eh:=eh) (hold:=hold) (ed:=ed) (ds:=ds) (show N.length<=100000 by omega) d e N.length (fi (List.replicate N.length false) hold) (Oh _) g j;have m:=JU (eh:=eh) (ed:=ed) (ds:=ds) hl hold 0 (List.replicate N.length false) rfl (by simp) (by omega) l q;have hm:kQ (N.length:Int) (N.length:Int)=some ():=by unfold kQ;rw [if_pos ⟨by omega,by omega,by unfold kN;omega⟩]
 have a:List.replicate ((N.length:Int)).toNat [tb false]=dK (List.replicate N.length false):=by simp [dK]
 refine ah ?_;rw [Gy];simp only [an,↓reduceIte,Int.reduceBEq,Int.reduceEq,aS,hm,a,aD];exact m
open Go Go.Aev Go.IntKind
theorem oQ(x:ByteArray):x.data.toList.length=x.size:=by rw [Oe];rfl
def lM(s p:ByteArray):Bool:=decide ((s.size:Int)>=(p.size:Int)) && decide (s.extract 0 p.size=p)
def p5(s p:ByteArray):Bool:=lM s p && (match s.data.toList[p.size]? with
 | some u=>decide ((u.toNat:Int)>=48) && decide ((u.toNat:Int)<=57)
 | none=>false)
theorem Lj(s p:ByteArray):Or (.call 103) [AV.t (T.str s),AV.t (T.str p)] []=some [tb (lM s p)]:=by
 unfold lM;refine ah ?_;rw [Gd];by_cases h:(s.size:Int)>=(p.size:Int)
 .have a:eO 0 (p.size:Int) (s.size:Int)=some ():=by unfold eO;rw [if_pos ⟨by omega,by omega,by omega⟩]
  simp only [an,↓reduceIte,Int.reduceBEq,Int.reduceEq,h,a,decide_true,Oa,p6]
 .simp only [br,an,↓reduceIte,Int.reduceBEq,Int.reduceEq,h,decide_false]
def iU(s p:ByteArray):ByteArray:=if lM s p then s.extract p.size s.size else s
theorem L5(s p:ByteArray):Or (.call 58) [AV.t (T.str s),AV.t (T.str p)] []=some [T.str (iU s p),tb (lM s p)]:=by
 have k:=Lj s p;have c:Or (.call 90) [AV.t (T.str s),AV.t (T.str p)] []=some [T.str (iU s p),tb (lM s p)]:=by
  unfold iU;refine ah ?_;rw [H4];cases a:lM s p with
  | false=>rw [a] at k;simp only [an,↓reduceIte,Int.reduceBEq,Int.reduceEq,k,NS];rfl
  | true=>
   rw [a] at k;have hs:(p.size:Int)<=(s.size:Int):=by unfold lM at a;simp only [NT,decide_eq_true_eq] at a;exact a.1
   have b:eO (p.size:Int) (s.size:Int) (s.size:Int)=some ():=by unfold eO;rw [if_pos ⟨by omega,by omega,by omega⟩]
   simp only [an,↓reduceIte,Int.reduceBEq,Int.reduceEq,k,NR,b,Oa]
 refine ah ?_;rw [G3];simp only [an,↓reduceIte,Int.reduceBEq,Int.reduceEq,c]
theorem L4(nm p:ByteArray)(ea:Bool)(ar:List (List T))(so:Int):Or (.call 57) [AV.agg [AV.t (T.str nm),AV.t (T.ab 1 ea ar),I so],AV.t (T.ptr [T.str p])] []=some [tb (p5 nm p)]:=by
 have k:=L5 nm p;unfold p5;refine ah ?_;rw [G2];cases c:lM nm p with
 | false=>rw [c] at k;simp only [br,an,↓reduceIte,Int.reduceBEq,Int.reduceEq,k]
 | true=>
  have e:iU nm p=nm.extract p.size nm.size:=by unfold iU;rw [c];rfl
  have el:(iU nm p).data.toList=nm.data.toList.drop p.size:=by rw [e];exact Go.Lib.extract_to_end nm p.size
  have es:(iU nm p).size=nm.size - p.size:=by have:=congrArg List.length el;rw [ON,oQ,oQ] at this;exact this
  rw [c] at k;have g:(iU nm p).data.toList[0]? =nm.data.toList[p.size]?:=by rw [el,Pu,PV]
  cases b:nm.data.toList[p.size]? with
  | none=>
   have f:iU nm p=ByteArray.mk #[]:=by
    have:(iU nm p).data.toList= []:=by rw [el];have:=List.getElem?_eq_none_iff.1 b;exact PI this
    cases h:iU nm p with
    | mk d=>rw [h] at this;simp only at this;rw [Array.toList_eq_nil_iff.1 this]
   simp only [br,an,↓reduceIte,Int.reduceBEq,Int.reduceEq,k,p6,f,decide_true,NR]
  | some u=>
   have j:p.size < nm.size:=by have:=(NQ.1 b).1;rw [oQ] at this;exact this
   have f:¬iU nm p=ByteArray.mk #[]:=λh=>by have:=congrArg ByteArray.size h;rw [es] at this;have l:(ByteArray.mk #[]).size=0:=rfl;omega
   have i:(0:Int)<=0/\(0:Int) < ((iU nm p).size:Int):=by rw [es];omega
   rw [b] at g;simp only [an,↓reduceIte,Int.reduceBEq,Int.reduceEq,k,p6,f,decide_false,NS,i,and_self,g];by_cases a:(u.toNat:Int)>=48
   .simp only [an,↓reduceIte,Int.reduceBEq,Int.reduceEq,a,decide_true]
   .simp only [br,an,↓reduceIte,Int.reduceBEq,Int.reduceEq,a,decide_false]
def l7(ds:List Dc)(p:ByteArray):Bool:=ds.any λd=>p5 d.nm p
theorem CR{e:Bool}{ds:List Dc}{p:ByteArray}(hl:ds.length<=100):∀(r:List Dc) (i:Nat),ds.drop i=r->
  ∃z:Int,Or gp [AV.t (T.ab 3 e (aM ds)),AV.fn 57 [] [AV.t (T.ptr [T.str p])],I (ds.length:Int),I (i:Int)] []=some [ti z]/\decide (z>=0)=r.any λd=>p5 d.nm p:=by
 intro r;induction r with
 | nil=>
  intro i g;have a:¬(i:Int) < (ds.length:Int):=by have:=bp g;omega
  refine⟨-1,ah ?_,by simp⟩;rw [wN];simp only [an,↓reduceIte,Int.reduceBEq,Int.reduceEq,a]
 | cons d r h=>
  intro i g;obtain⟨c,m,f⟩:=bq g;have a:(i:Int) < (ds.length:Int):=by omega
  have h0: 0<=(i:Int):=by omega
  have k:=L4 d.nm p d.ea (enc d.ar) d.so;cases b:p5 d.nm p with
  | true=>rw [b] at k;refine⟨(i:Int),ah ?_,by simp [b]⟩;rw [wN];simp only [an,↓reduceIte,Int.reduceBEq,Int.reduceEq,a,h0,and_self,cj,dh c,k]
  | false=>rw [b] at k;obtain⟨z,j,l⟩:=h (i+1) f;refine⟨z,ah ?_,by rw [l];simp [b]⟩;rw [wN];simp only [an,↓reduceIte,Int.reduceBEq,Int.reduceEq,a,h0,and_self,cj,dh c,k,next i (by omega)];exact j
def od(ds:List Dc):Nat->ByteArray->ByteArray
 | 0,p=>p
 | k+1,p=>if l7 ds p then od ds k (p++us) else p
theorem yE{ds:List Dc}{p:ByteArray}(hs:∀d∈ds,d.nm.size<=12)(h:l7 ds p=true):p.size < 12:=by
 unfold l7 at h;obtain⟨d,a,h⟩:=PG.1 h;unfold p5 at h;simp only [NT] at h;split at h
 .rename_i u b;have:=(NQ.1 b).1;have c:=hs d a;have e:=oQ d.nm;omega
 .cases h.2
theorem JE{ed en eh:Bool}{ds:List Dc}{ns:List (List T)}{hs:List (List T)}(hl:ds.length<=100)(c:∀d∈ds,d.nm.size<=12):∀(k:Nat) (p:ByteArray),12<=p.size+k->p.size<=12->
  Or sq [r0,r1] [ad.box [AV.t (T.ab 3 ed (aM ds)),AV.t (T.ab 5 en ns),AV.t (T.ab 1 eh hs)],ad.box [AV.t (T.str p)]]=some [T.str (od ds k p)]:=by
 intro k;induction k with
 | zero=>
  intro p l m;obtain⟨z,g,i⟩:=CR (e:=ed) (p:=p) hl ds 0 rfl;have b:Or (.call 89) [AV.t (T.ab 3 ed (aM ds)),AV.fn 57 [] [AV.t (T.ptr [T.str p])]] []=some [ti z]:=by refine ah ?_;rw [Bi];simp only [cj];exact g
  have nt:l7 ds p=false:=by
   cases h:l7 ds p with
   | false=>rfl
   | true=>have:=yE c h;omega
  have a:Or (.call 55) [AV.t (T.ab 3 ed (aM ds)),AV.fn 57 [] [AV.t (T.ptr [T.str p])]] []=some [tb false]:=by rw [<-nt];refine ah ?_;rw [AP];simp only [an,↓reduceIte,Int.reduceBEq,Int.reduceEq,b,i,l7]
  rw [od];refine ah ?_;rw [vV];simp only [an,↓reduceIte,Int.reduceBEq,Int.reduceEq,a]
 | succ k o=>
  intro p l m;obtain⟨z,g,i⟩:=CR (e:=ed) (p:=p) hl ds 0 rfl;have b:Or (.call 89) [AV.t (T.ab 3 ed (aM ds)),AV.fn 57 [] [AV.t (T.ptr [T.str p])]] []=some [ti z]:=by refine ah ?_;rw [Bi];simp only [cj];exact g
  have a:Or (.call 55) [AV.t (T.ab 3 ed (aM ds)),AV.fn 57 [] [AV.t (T.ptr [T.str p])]] []=some [tb (l7 ds p)]:=by refine ah ?_;rw [AP];simp only [an,↓reduceIte,Int.reduceBEq,Int.reduceEq,b,i,l7]
  rw [od];cases f:l7 ds p with
  | false=>rw [f] at a;refine ah ?_;rw [vV];simp only [an,↓reduceIte,Int.reduceBEq,Int.reduceEq,a];rfl
  | true=>
   rw [f] at a;have:=yE c f;have n:=o (p++us) (by rw [Ob,fS];omega) (by rw [Ob,fS];omega);have j:p.size+1<=4294967296:=by omega
   refine ah ?_;rw [vV];simp only [an,↓reduceIte,Int.reduceBEq,Int.reduceEq,a,j];exact n
def fm(ds:List Dc):ByteArray:=od ds 11 us
theorem xP{ds:List Dc}(a:∀d∈ds,d.nm.size<=12):∀(k:Nat) (p:ByteArray),p.size<=12->(od ds k p).size<=12
 | 0,p,h=>h
 | k+1,p,h=>by
  rw [od];split
  .rename_i b;have:=yE a b;exact xP a k _ (by rw [Ob,fS];omega)
  .exact h
theorem Lt{ed en eh:Bool}{ds:List Dc}{ns:List (List T)}{hs:List (List T)}(hl:ds.length<=100)(a:∀d∈ds,d.nm.size<=12):
  Or (.call 30) [AV.agg [AV.t (T.ab 3 ed (aM ds)),AV.t (T.ab 5 en ns),AV.t (T.ab 1 eh hs)]] []=some [T.str (fm ds)]:=by
 have:=JE (ed:=ed) (en:=en) (eh:=eh) (ns:=ns) (hs:=hs) hl a 11 us (by rw [fS];omega) (by rw [fS];omega);refine ah ?_;rw [Gq];exact this
theorem Ku{e:Bool}{l:List Int}(hl:l.length<=1000):∀(r:List Int) (i:Nat),l.drop i=r->
  ∃z:Int,Or ei [ab e l,AV.fn 21 [] [],I (l.length:Int),I (i:Int)] []=some [ti z]/\decide (z>=0)=r.any aJ:=by
 intro r;induction r with
 | nil=>
  intro i g;have a:¬(i:Int) < (l.length:Int):=by have:=bp g;omega
  refine⟨-1,ah ?_,by simp⟩;rw [wG];simp only [an,↓reduceIte,Int.reduceBEq,Int.reduceEq,a]
 | cons d r h=>
  intro i g;obtain⟨c,n,f⟩:=bq g;have a:(i:Int) < (l.length:Int):=by omega
  have h0: 0<=(i:Int):=by omega
  have k:=gg d;cases b:aJ d with
  | true=>rw [b] at k;refine⟨(i:Int),ah ?_,by simp [b]⟩;rw [wG];simp only [an,↓reduceIte,Int.reduceBEq,Int.reduceEq,a,h0,and_self,aD,bM c,k]
  | false=>rw [b] at k;obtain⟨z,j,m⟩:=h (i+1) f;refine⟨z,ah ?_,by rw [m];simp [b]⟩;rw [wG];simp only [an,↓reduceIte,Int.reduceBEq,Int.reduceEq,a,h0,and_self,aD,bM c,k,next i (by omega)];exact j
theorem Ky{e:Bool}{ds:List Dc}(hl:ds.length<=1000):∀(r:List Dc) (i:Nat),ds.drop i=r->
  ∃z:Int,Or gp [AV.t (T.ab 3 e (aM ds)),AV.fn 56 [] [],I (ds.length:Int),I (i:Int)] []=some [ti z]/\decide (z>=0)=r.any λd=>aJ d.so:=by
 intro r;induction r with
 | nil=>
  intro i g;have a:¬(i:Int) < (ds.length:Int):=by have:=bp g;omega
  refine⟨-1,ah ?_,by simp⟩;rw [wM];simp only [an,↓reduceIte,Int.reduceBEq,Int.reduceEq,a]
 | cons d r j=>
  intro i g;obtain⟨c,n,h⟩:=bq g;have a:(i:Int) < (ds.length:Int):=by omega
  have h0: 0<=(i:Int):=by omega
  have f:=gg d.so;have k:Or (.call 56) [AV.agg [AV.t (T.str d.nm),AV.t (T.ab 1 d.ea (enc d.ar)),I d.so]] []=some [tb (aJ d.so)]:=by refine ah ?_;rw [G1];simp only [an,↓reduceIte,Int.reduceBEq,Int.reduceEq,f]
  cases b:aJ d.so with
  | true=>rw [b] at k;refine⟨(i:Int),ah ?_,by simp [b]⟩;rw [wM];simp only [an,↓reduceIte,Int.reduceBEq,Int.reduceEq,a,h0,and_self,cj,dh c,k]
  | false=>rw [b] at k;obtain⟨z,l,m⟩:=j (i+1) h;refine⟨z,ah ?_,by rw [m];simp [b]⟩;rw [wM];simp only [an,↓reduceIte,Int.reduceBEq,Int.reduceEq,a,h0,and_self,cj,dh c,k,next i (by omega)];exact l
def r8(ds:List Dc)(ss:List Int):Bool:=ss.any aJ || ds.any λd=>aJ d.so
theorem LV{e:Bool}{l:List Int}(hl:l.length<=1000):Or (.call 48) [ab e l,AV.fn 21 [] []] []=some [tb (l.any aJ)]:=by
 obtain⟨z,b,c⟩:=Ku (e:=e) hl l 0 rfl;have a:Or (.call 86) [ab e l,AV.fn 21 [] []] []=some [ti z]:=by refine ah ?_;rw [HQ];simp only [aD];exact b
 refine ah ?_;rw [GM];simp only [an,↓reduceIte,Int.reduceBEq,Int.reduceEq,a,c]
theorem Lr{ed en eh es:Bool}{ds:List Dc}{ns:List (List T)}{hs:List (List T)}{ss:List Int}(hl:ds.length<=100)(c:ss.length<=1000):
  Or (.call 28) [AV.agg [AV.t (T.ab 3 ed (aM ds)),AV.t (T.ab 5 en ns),AV.t (T.ab 1 eh hs)],ab es ss] []=some [tb (r8 ds ss)]:=by
 have a:=LV (e:=es) c;obtain⟨z,h,i⟩:=Ky (e:=ed) (ds:=ds) (by omega) ds 0 rfl;have g:Or (.call 89) [AV.t (T.ab 3 ed (aM ds)),AV.fn 56 [] []] []=some [ti z]:=by refine ah ?_;rw [HZ];simp only [cj];exact h
 have f:Or (.call 55) [AV.t (T.ab 3 ed (aM ds)),AV.fn 56 [] []] []=some [tb (ds.any λd=>aJ d.so)]:=by refine ah ?_;rw [GZ];simp only [an,↓reduceIte,Int.reduceBEq,Int.reduceEq,g,i]
 unfold r8;refine ah ?_;rw [Gp];cases b:ss.any aJ with
 | true=>rw [b] at a;simp only [br,an,↓reduceIte,Int.reduceBEq,Int.reduceEq,a,NR];rfl
 | false=>rw [b] at a;simp only [an,↓reduceIte,Int.reduceBEq,Int.reduceEq,a,NS,f];rfl
def gr(p:ByteArray)(k:Nat)(d:Dc):Nat->Nat->List Dc
 | _,0=> []
 | b,n+1=>⟨p++it (k:Int)++us++it (b:Int),d.ea,d.ar,1⟩::gr p k d (b+1) n
def mQ(p:ByteArray)(k:Nat):Nat->Nat->Bool->Bool
 | _,0,ok=>ok
 | b,n+1,ok=>mQ p k (b+1) n (ok && decide (((p++it (k:Int)++us++it (b:Int)).size:Int)<=12))
def dG(p:ByteArray):Nat->List Dc->List Dc
 | _,[]=> []
 | k,d::r=>(if aJ d.so then gr p k d 0 (d.so - 10).toNat else [d])++dG p (k+1) r
def jt(p:ByteArray):Nat->List Dc->Bool->Bool
 | _,[],ok=>ok
 | k,d::r,ok=>jt p (k+1) r (if aJ d.so then mQ p k 0 (d.so - 10).toNat ok else ok)
theorem sS(p:ByteArray)(k:Nat)(d:Dc):∀(n b:Nat),(gr p k d b n).length=n
 | 0,_=>rfl
 | n+1,b=>by rw [gr,NV,sS p k d n]
theorem jU(e:Bool)(l:List Int)(a:e=true->l= [])(hl:l.length<=1000000):∃x,Or (.call 25) [ab e l] []=some [x]/\x.ak 1=some (e,enc l):=by
 refine⟨_,D0 e l a hl, ?_⟩;cases e with
 | true=>rw [a rfl];rfl
 | false=>rfl
theorem gq(v x:Bool):(bif v then x else false)= (v && x):=by cases v <;> rfl
def nM(d:Dc):List T:= [T.str d.nm,T.ab 1 d.ea (enc d.ar),ti d.so]
theorem CO{p:ByteArray}{ed:Bool}{ds:List Dc}{k w:Nat}{d:Dc}(v:p.size<=100)(u:k<=100)(g:d.ea=true->d.ar= [])(s:d.ar.length<=1000)(y:w<=100){r:List T}:∀(n b:Nat) (acc:List Dc) (ok:Bool),b+n=w->acc.length+n<=100000->
  Or kg [AV.t (T.str p),o0,B (mQ p k b n ok),AV.t (T.ab 3 ed (aM ds)),I (ds.length:Int),I ((k+1:Nat):Int)] [ad.sl false 3 false ((acc++gr p k d b n).map nM)]=some r->
  Or mi [AV.t (T.str p),o0,B ok,I (k:Int),r1,AV.t (T.ab 3 ed (aM ds)),I (ds.length:Int),I (k:Int),I (w:Int),I (b:Int)] [ad.sl false 3 false (acc.map nM),ad.box [AV.t (T.str d.nm),ab d.ea d.ar,I d.so]]=some r:=by
 have e:dS (k:Int):=⟨by omega,by omega⟩;have z:=fY e;intro n;induction n with
 | zero=>
  intro b acc ok m hl a;have f:¬(b:Int) < (w:Int):=by omega
  rw [gr,Oj,mQ] at a;refine ah ?_;rw [Aj];simp only [an,↓reduceIte,Int.reduceBEq,Int.reduceEq,f,next k (by omega)];exact a
 | succ n q=>
  intro b acc ok m hl a;have f:(b:Int) < (w:Int):=by omega
  have c:dS (b:Int):=⟨by omega,by omega⟩;have A:=fY c;have j:p.size+ (it (k:Int)).size<=4294967296:=by omega
  have l:(p++it (k:Int)).size+1<=4294967296:=by rw [Ob];omega
  have c3:(p++it (k:Int)++us).size+ (it (b:Int)).size<=4294967296:=by simp only [Ob,fS];omega
  obtain⟨x,i,o⟩:=jU d.ea d.ar g (by omega);rw [gr,mQ] at a;have h:=q (b+1) (acc++ [⟨p++it (k:Int)++us++it (b:Int),d.ea,d.ar,1⟩]) _ (by omega) (by simp;omega) (by simpa only [Og,Ol] using a);rw [PX] at h;refine ah ?_;rw [Aj];simp only [an,↓reduceIte,Int.reduceBEq,Int.reduceEq,f,hH e,hH c,j,l,c3,i,o,O7,NW,cE (show acc.length+1<=1000000 by omega),next b (by omega),gq];exact h
theorem CN{p:ByteArray}{ed:Bool}{ds:List Dc}(q:p.size<=100)(hl:ds.length<=100)(e:∀d∈ds,d.ea=true->d.ar= [])(f:∀d∈ds,d.ar.length<=1000):∀(r:List Dc) (k:Nat) (acc:List Dc) (ok:Bool),ds.drop k=r->k<=ds.length->acc.length<=100 * k->
  Or kg [AV.t (T.str p),o0,B ok,AV.t (T.ab 3 ed (aM ds)),I (ds.length:Int),I (k:Int)] [ad.sl false 3 false (acc.map nM)]=some [T.ab 3 false ((acc++dG p k r).map nM),tb (jt p k r ok && decide ((((acc++dG p k r).length:Nat):Int)<=30))]:=by
 intro r;induction r with
 | nil=>
  intro k acc ok g o n;have c:¬(k:Int) < (ds.length:Int):=by have:=bp g;omega
  rw [dG,jt,Oj];refine ah ?_;rw [vX];simp only [an,↓reduceIte,Int.reduceBEq,Int.reduceEq,c,O7,gq]
 | cons d r l=>
  intro k acc ok g o n;obtain⟨h,z,j⟩:=bq g;have hm:=NU h;have c:(k:Int) < (ds.length:Int):=by omega
  have h0: 0<=(k:Int):=by omega
  have a:=gg d.so;obtain⟨x,m,s⟩:=jU d.ea d.ar (e d hm) (by have:=f d hm;omega);rw [dG,jt];cases i:aJ d.so with
  | false=>rw [i] at a;have b:=l (k+1) (acc++ [d]) ok j (by omega) (by simp;omega);simp only [Og,Ol] at b;rw [PX] at b;simp only [Od,↓reduceIte,Ol];refine ah ?_;rw [vX];simp only [an,↓reduceIte,Int.reduceBEq,Int.reduceEq,c,h0,and_self,cj,dh h,a,NS,m,s,O7,NW,cE (show acc.length+1<=1000000 by omega),next k (by omega)];exact b
  | true=>
   rw [i] at a;have y:=fX i;have b:=l (k+1) (acc++gr p k d 0 (d.so - 10).toNat) (mQ p k 0 (d.so - 10).toNat ok) j (by omega) (by simp [sS];omega);have u:=CO (p:=p) (ed:=ed) (ds:=ds) (k:=k) (w:=(d.so - 10).toNat) (d:=d) q (by omega) (e d hm) (f d hm) (by omega) (d.so - 10).toNat 0 acc ok (by omega) (by omega) b;have v:i64.wrap (d.so - 10)= ((d.so - 10).toNat:Int):=by rw [wr (by omega)];omega
   simp only [↓reduceIte];rw [<-Og];refine ah ?_;rw [vX];simp only [an,↓reduceIte,Int.reduceBEq,Int.reduceEq,c,h0,and_self,cj,dh h,a,NR,v];exact u
theorem JF{p:ByteArray}{ed:Bool}{ds:List Dc}(j:p.size<=100)(hl:ds.length<=100)(b:∀d∈ds,d.ea=true->d.ar= [])(c:∀d∈ds,d.ar.length<=1000):∃x,Or kg [AV.t (T.str p),AV.t (T.ae true),B true,AV.t (T.ab 3 ed (aM ds)),I (ds.length:Int),I 0] []=some [x,tb (jt p 0 ds true && decide ((((dG p 0 ds).length:Nat):Int)<=30))]/\x.ak 3=some ((dG p 0 ds).isEmpty,aM (dG p 0 ds)):=by
 cases a:ds with
 | nil=>refine⟨T.ae true,ah ?_,rfl⟩;rw [vW];simp only [an,↓reduceIte,Int.reduceBEq,Int.reduceEq,N7,On,Ox,decide_false];rfl
 | cons d r=>
  have hm:d∈ds:=by rw [a];exact NN
  have q:(0:Int) < (((d::r).length:Nat):Int):=by simp
  have h0:(0:Int)<=0:=by omega
  have o:(aM (d::r))[(0:Int).toNat]? =some [T.str d.nm,T.ab 1 d.ea (enc d.ar),ti d.so]:=rfl;have e:=gg d.so;have y:i64.wrap (0+1)= ((1:Nat):Int):=by decide
  obtain⟨x,i,u⟩:=jU d.ea d.ar (b d hm) (by have:=c d hm;omega);rw [dG,jt];cases l:aJ d.so with
  | false=>rw [l] at e;have f:=CN (p:=p) (ed:=ed) (ds:=ds) j hl b c r 1 [d] true (by rw [a];rfl) (by rw [a];simp) (by simp);rw [a] at f;simp only [Od,↓reduceIte,Ol];refine⟨T.ab 3 false (([d] ++dG p (0+1) r).map nM),ah ?_,rfl⟩;rw [vW];simp only [an,↓reduceIte,Int.reduceBEq,Int.reduceEq,q,h0,and_self,cj,o,e,NS,i,u,y];exact f
  | true=>
   rw [l] at e;have F:=fX l;obtain⟨n,C⟩:∃n,(d.so - 10).toNat=n+1:=⟨(d.so - 10).toNat - 1,by omega⟩;have h:dS ((0:Nat):Int):=⟨by omega,by omega⟩;have m:=fY h;have z:p.size+ (it 0).size<=4294967296:=by have:(it 0).size<=21:=m;omega
   have A:(p++it 0).size+1<=4294967296:=by have:(it 0).size<=21:=m;rw [Ob];omega
   have c3:(p++it 0++us).size+ (it 0).size<=4294967296:=by have:(it 0).size<=21:=m;simp only [Ob,fS];omega
   have v:Or (.call 59) [I 0] []=some [T.str (it 0)]:=hH h;have f:=CN (p:=p) (ed:=ed) (ds:=ds) j hl b c r 1 (gr p 0 d 0 (n+1)) (mQ p 0 0 (n+1) true) (by rw [a];rfl) (by rw [a];simp) (by rw [sS];omega);have D:=CO (p:=p) (ed:=ed) (ds:=ds) (k:=0) (w:=n+1) (d:=d) j (by omega) (b d hm) (c d hm) (by omega) n 1 [⟨p++it 0++us++it 0,d.ea,d.ar,1⟩] (true && decide (((p++it 0++us++it 0).size:Int)<=12)) (by omega) (by simp;omega) f;have E:i64.wrap (d.so - 10)= ((n+1:Nat):Int):=by rw [wr (by omega)];omega
   have s:(0:Int) < ((n+1:Nat):Int):=by omega
   have g:Or mi [AV.t (T.str p),AV.t (T.ae true),B true,I 0,r0,AV.t (T.ab 3 ed (aM ds)),I (ds.length:Int),I 0,I ((n+1:Nat):Int),I 0] [ad.box [AV.t (T.str d.nm),ab d.ea d.ar,I d.so]]=some [T.ab 3 false ((gr p 0 d 0 (n+1)++dG p 1 r).map nM),tb (jt p 1 r (mQ p 0 0 (n+1) true) && decide ((((gr p 0 d 0 (n+1)++dG p 1 r).length:Nat):Int)<=30))]:=by refine ah ?_;rw [Gt];simp only [an,↓reduceIte,Int.reduceBEq,Int.reduceEq,s,v,z,A,c3,i,u,y,gq];exact D
   rw [a] at g;simp only [↓reduceIte,C];refine⟨T.ab 3 false ((gr p 0 d 0 (n+1)++dG p (0+1) r).map nM),ah ?_,rfl⟩;rw [vW];simp only [an,↓reduceIte,Int.reduceBEq,Int.reduceEq,q,h0,and_self,cj,o,e,NR,E];exact g
theorem Lu{p:ByteArray}{ed en eh:Bool}{ds:List Dc}{ns hs:List (List T)}(f:p.size<=100)(hl:ds.length<=100)(a:∀d∈ds,d.ea=true->d.ar= [])(b:∀d∈ds,d.ar.length<=1000):
  ∃x,Or (.call 31) [AV.agg [AV.t (T.ab 3 ed (aM ds)),AV.t (T.ab 5 en ns),AV.t (T.ab 1 eh hs)],AV.t (T.str p)] []=some [x,tb (jt p 0 ds true && decide ((((dG p 0 ds).length:Nat):Int)<=30))]/\x.ak 3=some ((dG p 0 ds).isEmpty,aM (dG p 0 ds)):=by
 obtain⟨x,c,e⟩:=JF (p:=p) (ed:=ed) f hl a b;refine⟨x,ah ?_,e⟩;rw [Gr];simp only [cj];exact c
open Go Go.Aev Go.IntKind
def jz(c:Cx)(t:Tr)(M:Mk)(x:Nd)(s:Int):Tr×Mk:=
 if aJ s then(⟨t.bits++ [(fI c t M x s).1],t.to++ [0]⟩,(fI c t M x s).2)
 else(⟨t.bits++ [[]],t.to++ [(gz t M x).1]⟩,(gz t M x).2)
def nY(c:Cx):List Nd->List Int->Tr->Mk->Tr×Mk
 | x::r,s::q,t,M=>if 800 < (jz c t M x s).2.N.length then jz c t M x s else nY c r q (jz c t M x s).1 (jz c t M x s).2
 | _,_,t,M=>(t,M)
def uh:List T:= [T.ae true,T.ae true,T.ae true,ti 10,ti 0]
def qd(c:Cx)(q:Tr×Mk):List Nd×List Int:=ov q.2.N (c.hs.map (bJ q.1))
def kS(c:Cx)(dl:List Dc)(ok:Bool)(q:Tr×Mk):List T:=
 if ok=false\/800 < q.2.N.length then uh
 else if 200 < (qd c q).1.length then uh
 else [T.ab 3 dl.isEmpty (aM dl),T.ab 5 (qd c q).1.isEmpty (ba (qd c q).1),T.ab 1 (qd c q).2.isEmpty (enc (qd c q).2),ti 0,ti 0]
theorem Bp(l:List (List Int))(b:List Int):bm l++ [[LO b]]=bm (l++ [b]):=by simp [bm]
theorem I5(w:List Int)(h: 1<=w.length):T.ab 1 w.isEmpty (enc w)=LO w:=by cases w with
 | nil=>simp at h
 | cons=>rfl
theorem yw{a:Type}(l:List a)(x:a):(l++ [x]).isEmpty=false:=by cases l <;> rfl
theorem dv.word{c:Cx}{t:Tr}{M f:Mk}{i n:Nat}{s:Int}{w:List Int}(h:dv c t M i)(hs:c.ss[i]? =some s)(r:aJ s=true)(u:Up M f n)(hl:(w.length:Int)=s - 10)(o:∀y∈w,In f y):dv c ⟨t.bits++ [w],t.to++ [0]⟩ f (i+1):=by
 have m:=h.up u;refine⟨u.ok,by simp [h.bl],by simp [h.tl],λk s' q a d=> ?_,λk s' q a d=> ?_⟩
 .by_cases e:k=i
  .subst e;rw [hs] at a;simp only [NL] at a;subst a;exact⟨w,by rw [OH (by rw [h.bl];exact Oh _),h.bl,Qs];rfl,hl,o⟩
  .obtain⟨b,g,j,l⟩:=m.w k s' (by omega) a d;exact⟨b,by rw [Ot (by rw [h.bl];omega)];exact g,j,l⟩
 .by_cases e:k=i
  .subst e;rw [hs] at a;simp only [NL] at a;subst a;rw [r] at d;cases d
  .obtain⟨g,v,j,l⟩:=m.p k s' (by omega) a d;exact⟨by rw [Ot (by rw [h.bl];omega)];exact g,v,by rw [Ot (by rw [h.tl];omega)];exact j,l⟩
theorem dv.plain{c:Cx}{t:Tr}{M f:Mk}{i n:Nat}{s v:Int}(h:dv c t M i)(hs:c.ss[i]? =some s)(r:aJ s=false)(u:Up M f n)(o:In f v):dv c ⟨t.bits++ [[]],t.to++ [v]⟩ f (i+1):=by
 have m:=h.up u;refine⟨u.ok,by simp [h.bl],by simp [h.tl],λk s' q a d=> ?_,λk s' q a d=> ?_⟩
 .by_cases e:k=i
  .subst e;rw [hs] at a;simp only [NL] at a;subst a;rw [r] at d;cases d
  .obtain⟨b,g,j,l⟩:=m.w k s' (by omega) a d;exact⟨b,by rw [Ot (by rw [h.bl];omega)];exact g,j,l⟩
 .by_cases e:k=i
  .subst e;exact⟨by rw [OH (by rw [h.bl];exact Oh _),h.bl,Qs];rfl,v,by rw [OH (by rw [h.tl];exact Oh _),h.tl,Qs];rfl,o⟩
  .obtain⟨g,x,j,l⟩:=m.p k s' (by omega) a d;exact⟨by rw [Ot (by rw [h.bl];omega)];exact g,x,by rw [Ot (by rw [h.tl];omega)];exact j,l⟩
structure qg (c:Cx):Prop where
 sl:c.ss.length=c.ns.length
 nl:c.ns.length<=200
 dl:c.ds.length<=30
 hl:c.hs.length<=200
 ds:∀d∈c.ds,d.nm.size<=12
 nd:∀(i:Nat) (x:Nd) (s:Int),c.ns[i]? =some x->c.ss[i]? =some s->sJ c i x s
 ho:∀k∈c.hs,0<=k/\c.ss[k.toNat]? =some 1
theorem Nb{c:Cx}(ok:qg c){t:Tr}{M:Mk}{i:Nat}{x:Nd}{s:Int}(d:c.ns[i]? =some x)(hs:c.ss[i]? =some s)(a:dv c t M i)(g:c.p.size<=100)(f:M.N.length<=40000):
  dv c (jz c t M x s).1 (jz c t M x s).2 (i+1)/\Up M (jz c t M x s).2 1000:=by
 unfold jz;cases b:aJ s with
 | true=>obtain⟨_,u,e,hl⟩:=EV d hs b (ok.nd i x s d hs) a (by have:=ok.dl;omega) g f;exact⟨a.word hs b u hl e,u⟩
 | false=>obtain⟨_,u,e⟩:=Dg d b (ok.nd i x s d hs) a f;exact⟨a.plain hs b u e,u⟩
abbrev FK(c:Cx):ad:=ad.box [AV.t (T.ab 3 c.ed (aM c.ds)),AV.t (T.ab 5 c.en (ba c.ns)),AV.t (T.ab 1 c.eh (enc c.hs))]
abbrev nf:ad:=ad.box [I 0,I 0]
abbrev EA(c:Cx):ad:=ad.box [Y'4,AV.t (T.ab 3 c.ed (aM c.ds)),AV.t (T.ab 5 c.en (ba c.ns)),AV.t (T.ab 1 c.eh (enc c.hs)),AV.t (T.str c.p),AV.t (T.ab 1 c.es (enc c.ss)),V'5,V'6]
theorem KA{c:Cx}{t:Tr}{M:Mk}{dl:List Dc}{n:Nat}(ok:qg c)(H:n=c.ns.length)(p:dv c t M n)(G:M.N.length<=800):∀(f:List Int) (j:Nat) (acc:List Int),c.hs.drop j=f->j<=c.hs.length->acc.length=j->acc++f.map (bJ t)=c.hs.map (bJ t)->
  Or oK [Y'0,Y'1,Y'2,Y'3,ab c.eh c.hs,I (c.hs.length:Int),I (j:Int)] [cL,nf,EA c,ad.box [AV.t (T.ab 3 dl.isEmpty (aM dl)),V'7,V'8],ad.box [V'7,V'9],ad.sl false 1 t.bits.isEmpty (bm t.bits),ad.sl false 1 t.to.isEmpty (enc t.to),ad.rows M.N.isEmpty 5 1 1 M.N.length (rows M.N),ad.sl false 1 acc.isEmpty (enc acc),ad.mp false [Ck.s] (Ck.i .i64) (cg M.K)]=some (kS c dl true (t,M)):=by
 have l:∀k∈c.hs,0<=k/\t.to[k.toNat]? =some (bJ t k)/\In M (bJ t k):=λk h=>by obtain⟨b,a⟩:=ok.ho k h;have E:k.toNat < c.ss.length:=(NQ.1 a).1;have r:KW c n k 1:=⟨b,by have:=ok.sl;omega,a⟩;exact⟨b,(r.plain p tS).2⟩
 intro f;induction f with
 | nil=>
  intro j acc g A d e;have b:¬(j:Int) < (c.hs.length:Int):=by have:=bp g;omega
  rw [OV,Oj] at e;have v:=LI (N:=M.N) (eh:=acc.isEmpty) (ed:=dl.isEmpty) (hold:=acc) (ds:=aM dl) (by omega) (by have:=ok.hl;omega) (λx B=>by obtain⟨i,z⟩:=PB B;exact p.ok.kl i x z) p.ok.ks (λk h=>by
   rw [e] at h;obtain⟨D,hm,rfl⟩:=Ou.1 h;exact(l D hm).2.2)
  unfold kS qd;rw [<-e];refine ah ?_;rw [Bk];simp only [an,↓reduceIte,Int.reduceBEq,Int.reduceEq,b,v,I4,cH];have m:¬(true=false\/800 < M.N.length):=by simp;omega
  rw [if_neg m];by_cases a: 200 < (ov M.N acc).1.length
  .have o:((ba (ov M.N acc).1).length:Int) > 200:=by rw [dy];omega
   rw [if_pos a];simp only [an,↓reduceIte,Int.reduceBEq,Int.reduceEq,o,decide_true];rfl
  .have o:¬((ba (ov M.N acc).1).length:Int) > 200:=by rw [dy];omega
   rw [if_neg a];simp only [an,↓reduceIte,Int.reduceBEq,Int.reduceEq,o,decide_false]
 | cons k f C=>
  intro j acc g A d e;obtain⟨q,F,y⟩:=bq g;have b:(j:Int) < (c.hs.length:Int):=by omega
  have h0: 0<=(j:Int):=by omega
  obtain⟨J,w,_⟩:=l k (NU q);have a: 0<=k/\k < (t.to.length:Int):=by have:=(NQ.1 w).1;omega
  have u:=C (j+1) (acc++ [bJ t k]) y (by omega) (by simp [d]) (by rw [<-e];simp);rw [yw] at u;refine ah ?_;rw [Bk];simp only [an,↓reduceIte,Int.reduceBEq,Int.reduceEq,b,h0,and_self,aD,bM q,a,eK w,NW,cE (show acc.length+1<=1000000 by have:=ok.hl;omega),next j (by have:=ok.hl;omega),dX];exact u
abbrev M9(c:Cx)(t:Tr)(M:Mk):List ad:= [FK c,cL,nf,EA c,ad.box [V'7,V'8],ad.sl false 1 t.bits.isEmpty (bm t.bits),ad.sl false 1 t.to.isEmpty (enc t.to),ad.rows M.N.isEmpty 5 1 1 M.N.length (rows M.N),ad.mp false [Ck.s] (Ck.i .i64) (cg M.K)]
theorem KB{c:Cx}{dl:List Dc}{okb:Bool}(ok:qg c)(F:c.p.size<=100):∀(rn:List Nd) (rs:List Int) (i:Nat) (t:Tr) (M:Mk),c.ns.drop i=rn->c.ss.drop i=rs->i<=c.ns.length->dv c t M i->M.N.length<=800->
  Or qk [r0,r1,Y'2,ab c.es c.ss,AV.t (T.ab 3 dl.isEmpty (aM dl)),B okb,Y'3,I (c.ns.length:Int),I (i:Int)] (M9 c t M)=some (kS c dl okb (nY c rn rs t M)):=by
 intro rn;induction rn with
 | nil=>
  intro rs i t M o w K f A;have k:¬(i:Int) < (c.ns.length:Int):=by have:=bp o;omega
  have D:i=c.ns.length:=by have:=bp o;omega
  have a:¬(M.N.length:Int) > 800:=by omega
  have y:nY c [] rs t M= (t,M):=by simp [nY]
  rw [y];cases okb with
  | false=>refine ah ?_;rw [o9];simp only [an,↓reduceIte,Int.reduceBEq,Int.reduceEq,k,NS];rfl
  | true=>have m:=KA (dl:=dl) ok D f A c.hs 0 [] rfl (OT _) rfl rfl;refine ah ?_;rw [o9];simp only [an,↓reduceIte,Int.reduceBEq,Int.reduceEq,k,NR,aS,a,decide_false,aD];exact m
 | cons x rn L=>
  intro rs i t M o w K f A;obtain⟨n,P,H⟩:=bq o;cases rs with
  | nil=>exact absurd (bp w) (by have:=ok.sl;omega)
  | cons s rs=>
   obtain⟨g,Q,J⟩:=bq w;have k:(i:Int) < (c.ns.length:Int):=by omega
   have q: 0<=(i:Int)/\(i:Int) < (c.ss.length:Int):=by omega
   have e:=gg s;obtain⟨bD,iY⟩:=Nb ok n g f F (by omega);have d:=λa=>L rs (i+1) _ _ H J (by omega) bD a;have G:=next i (by have:=ok.nl;omega);rw [nY];cases l:aJ s with
   | true=>
    rw [l] at e;obtain⟨r,u,C,hl⟩:=EV n g l (ok.nd i x s n g) f (by have:=ok.dl;omega) F (by omega);have O:=fX l;have es:jz c t M x s= (⟨t.bits++ [(fI c t M x s).1],t.to++ [0]⟩,(fI c t M x s).2):=by unfold jz;rw [l];rfl
    rw [es] at d bD⊢;dsimp only at d bD⊢;have h:bt 24 (t.bits.length+1)=some ():=cE (by have:=f.bl;have:=ok.nl;omega);have j:bt 8 (t.to.length+1)=some ():=cE (by have:=f.tl;have:=ok.nl;omega);have E:=I5 (fI c t M x s).1 (by omega);have y: [T.int i64 0]= [ti 0]:=rfl;by_cases a: 800 < (fI c t M x s).2.N.length
    .have b:((fI c t M x s).2.N.length:Int) > 800:=by omega
     rw [if_pos a];have er:kS c dl okb (⟨t.bits++ [(fI c t M x s).1],t.to++ [0]⟩,(fI c t M x s).2)=uh:=by unfold kS;rw [if_pos (.inr a)]
     rw [er];refine ah ?_;rw [o9];simp (maxSteps:=1000000) only [an,↓reduceIte,Int.reduceBEq,Int.reduceEq,k,q,and_self,aD,bM g,e,r,aY,aX,NO,aV,aS,cU,cV,cH,mw,NW,h,j,b,decide_true];cases okb <;> rfl
    .have b:¬((fI c t M x s).2.N.length:Int) > 800:=by omega
     rw [if_neg a];have m:=d (by omega);simp only [M9,yw] at m;refine ah ?_;rw [o9];simp (maxSteps:=1000000) only [an,↓reduceIte,Int.reduceBEq,Int.reduceEq,k,q,and_self,aD,bM g,e,r,aY,aX,NO,aV,aS,cU,cV,cH,mw,NW,h,j,b,decide_false,E,Bp,dX,G];exact m
   | false=>
    rw [l] at e;obtain⟨v,u,C⟩:=Dg n l (ok.nd i x s n g) f (by omega);have es:jz c t M x s= (⟨t.bits++ [[]],t.to++ [(gz t M x).1]⟩,(gz t M x).2):=by unfold jz;rw [l];rfl
    rw [es] at d bD⊢;dsimp only at d bD⊢;have h:bt 24 (t.bits.length+1)=some ():=cE (by have:=f.bl;have:=ok.nl;omega);have j:bt 8 (t.to.length+1)=some ():=cE (by have:=f.tl;have:=ok.nl;omega);by_cases a: 800 < (gz t M x).2.N.length
    .have b:((gz t M x).2.N.length:Int) > 800:=by omega
     rw [if_pos a];have er:kS c dl okb (⟨t.bits++ [[]],t.to++ [(gz t M x).1]⟩,(gz t M x).2)=uh:=by unfold kS;rw [if_pos (.inr a)]
     rw [er];refine ah ?_;rw [o9];simp (maxSteps:=1000000) only [an,↓reduceIte,Int.reduceBEq,Int.reduceEq,k,q,and_self,aD,bM g,e,v,aY,aX,NO,aV,aS,cU,cV,cH,mw,NW,h,j,b,decide_true];cases okb <;> rfl
    .have b:¬((gz t M x).2.N.length:Int) > 800:=by omega
     rw [if_neg a];have m:=d (by omega);simp only [M9,yw] at m;have z:bm t.bits++ [[T.ae true]]=bm (t.bits++ [[]]):=Bp t.bits [];refine ah ?_;rw [o9];simp (maxSteps:=1000000) only [an,↓reduceIte,Int.reduceBEq,Int.reduceEq,k,q,and_self,aD,bM g,e,v,aY,aX,NO,aV,aS,cU,cV,cH,mw,NW,h,j,b,decide_false,z,dX,G];exact m
open Go Go.Aev Go.IntKind
structure As where
 ed:Bool
 ds:List Dc
 en:Bool
 ns:List Nd
 eh:Bool
 hs:List Int
abbrev AG(a:As):AV:=AV.agg [AV.t (T.ab 3 a.ed (aM a.ds)),AV.t (T.ab 5 a.en (ba a.ns)),AV.t (T.ab 1 a.eh (enc a.hs))]
abbrev ca(a:As):ad:=ad.box [AV.t (T.ab 3 a.ed (aM a.ds)),AV.t (T.ab 5 a.en (ba a.ns)),AV.t (T.ab 1 a.eh (enc a.hs))]
structure qf (a:As):Prop where
 d:∀d∈a.ds,d.ea=true->d.ar= []
 n:∀x∈a.ns,x.ek=true->x.ks= []
 h:a.eh=true->a.hs= []
theorem Ii(l:List Dc)(d:Dc):aM l++ [[T.str d.nm,T.ab 1 d.ea (enc d.ar),T.int .i64 d.so]]=aM (l++ [d]):=by simp [aM]
theorem Bq(l:List Nd)(x:Nd):ba l++ [[T.int .i64 x.op,T.ab 1 x.ek (enc x.ks),T.int .i64 x.n,T.int .i64 x.d,T.str x.nm]]=ba (l++ [x]):=by simp [ba]
theorem JC{e eh:Bool}{ns:List Nd}{hs:List Int}{dl:List (List T)}(hl:ns.length<=1000)(n:∀x∈ns,x.ek=true->x.ks= [])(f:∀x∈ns,x.ks.length<=1000):∀(r:List Nd) (i:Nat) (acc:List Nd),ns.drop i=r->i<=ns.length->acc.length=i->
  Or gI [r0,r1,AV.t (T.ab 5 e (ba ns)),I (ns.length:Int),I (i:Int)] [cL,ad.box [o2,o3,o4],ad.sl false 3 false dl,ad.sl false 5 false (ba acc),ad.sl false 1 eh (enc hs)]=some [T.ab 3 false dl,T.ab 5 false (ba (acc++r)),T.ab 1 eh (enc hs)]/\
  Or gI [r0,r1,AV.t (T.ab 5 e (ba ns)),I (ns.length:Int),I (i:Int)] [cL,ad.box [AV.t (T.ae true),o2,o3],ad.sl false 5 false (ba acc),ad.sl false 1 eh (enc hs)]=some [T.ae true,T.ab 5 false (ba (acc++r)),T.ab 1 eh (enc hs)]:=by
 intro r;induction r with
 | nil=>
  intro i acc g m b;have a:¬(i:Int) < (ns.length:Int):=by have:=bp g;omega
  rw [Oj];refine⟨ah ?_,ah ?_⟩
  .rw [Ai];simp only [an,↓reduceIte,Int.reduceBEq,Int.reduceEq,a]
  .rw [Ah];simp only [an,↓reduceIte,Int.reduceBEq,Int.reduceEq,a]
 | cons x r o=>
  intro i acc g m b;obtain⟨d,p,l⟩:=bq g;have hm:=NU d;have a:(i:Int) < (ns.length:Int):=by omega
  have h0: 0<=(i:Int):=by omega
  obtain⟨y,c,h⟩:=jU x.ek x.ks (n x hm) (by have:=f x hm;omega);obtain⟨j,k⟩:=o (i+1) (acc++ [x]) l (by omega) (by simp [b]);simp only [Og,Ol] at j k;refine⟨ah ?_,ah ?_⟩
  .rw [Ai];simp only [an,↓reduceIte,Int.reduceBEq,Int.reduceEq,a,h0,and_self,dy,eJ d,c,h,NW,cE (show acc.length+1<=1000000 by omega),next i (by omega),Bq];exact j
  .rw [Ah];simp only [an,↓reduceIte,Int.reduceBEq,Int.reduceEq,a,h0,and_self,dy,eJ d,c,h,NW,cE (show acc.length+1<=1000000 by omega),next i (by omega),Bq];exact k
theorem JD{e eh:Bool}{ns:List Nd}{hs:List Int}{dl:List (List T)}(hl:ns.length<=1000)(h:∀x∈ns,x.ek=true->x.ks= [])(b:∀x∈ns,x.ks.length<=1000):
  (∃z,Or gI [r0,r1,AV.t (T.ab 5 e (ba ns)),I (ns.length:Int),I 0] [cL,ad.box [o2,AV.t (T.ae true),o3],ad.sl false 3 false dl,ad.sl false 1 eh (enc hs)]=some [T.ab 3 false dl,z,T.ab 1 eh (enc hs)]/\z.ak 5=some (ns.isEmpty,ba ns))/\
  (∃z,Or gI [r0,r1,AV.t (T.ab 5 e (ba ns)),I (ns.length:Int),I 0] [cL,ad.box [AV.t (T.ae true),AV.t (T.ae true),o2],ad.sl false 1 eh (enc hs)]=some [T.ae true,z,T.ab 1 eh (enc hs)]/\z.ak 5=some (ns.isEmpty,ba ns)):=by
 cases a:ns with
 | nil=>
  refine⟨⟨T.ae true,ah ?_,rfl⟩,⟨T.ae true,ah ?_,rfl⟩⟩
  .rw [Ag];simp only [an,↓reduceIte,Int.reduceBEq,Int.reduceEq,N7,On,Ox,decide_false]
  .rw [Af];simp only [an,↓reduceIte,Int.reduceBEq,Int.reduceEq,N7,On,Ox,decide_false]
 | cons x r=>
  have hm:x∈ns:=by rw [a];exact NN
  have g:(0:Int) < (((x::r).length:Nat):Int):=by simp
  have h0:(0:Int)<=0:=by omega
  have f:(ba (x::r))[(0:Int).toNat]? =some [ti x.op,T.ab 1 x.ek (enc x.ks),ti x.n,ti x.d,T.str x.nm]:=rfl;have j:i64.wrap (0+1)= ((1:Nat):Int):=by decide
  obtain⟨y,c,i⟩:=jU x.ek x.ks (h x hm) (by have:=b x hm;omega);obtain⟨k,l⟩:=JC (e:=e) (eh:=eh) (ns:=ns) (hs:=hs) (dl:=dl) hl h b r 1 [x] (by rw [a];rfl) (by rw [a];simp) rfl;rw [a] at k l;refine⟨⟨T.ab 5 false (ba ([x] ++r)),ah ?_,rfl⟩,⟨T.ab 5 false (ba ([x] ++r)),ah ?_,rfl⟩⟩
  .rw [Ag];simp only [an,↓reduceIte,Int.reduceBEq,Int.reduceEq,g,h0,and_self,dy,f,c,i,j];exact k
  .rw [Af];simp only [an,↓reduceIte,Int.reduceBEq,Int.reduceEq,g,h0,and_self,dy,f,c,i,j];exact l
theorem JB{a:As}{e eh:Bool}{hs:List Int}(hl:a.ds.length<=1000)(q:∀d∈a.ds,d.ea=true->d.ar= [])(k:∀d∈a.ds,d.ar.length<=1000){z:T}
  (l:Or gI [r0,r1,AV.t (T.ab 5 a.en (ba a.ns)),I (a.ns.length:Int),I 0] [cL,ad.box [o2,AV.t (T.ae true),o3],ad.sl false 3 false (aM a.ds),ad.sl false 1 eh (enc hs)]=some [T.ab 3 false (aM a.ds),z,T.ab 1 eh (enc hs)]):∀(r:List Dc) (i:Nat) (acc:List Dc),a.ds.drop i=r->i<=a.ds.length->acc.length=i->acc++r=a.ds->
  Or mh [r0,r1,Y'2,AV.t (T.ab 3 e (aM a.ds)),I (a.ds.length:Int),I (i:Int)] [ca a,cL,ad.box [o3,AV.t (T.ae true),o4],ad.sl false 3 false (aM acc),ad.sl false 1 eh (enc hs)]=some [T.ab 3 false (aM a.ds),z,T.ab 1 eh (enc hs)]:=by
 intro r;induction r with
 | nil=>
  intro i acc g o f b;have h:¬(i:Int) < (a.ds.length:Int):=by have:=bp g;omega
  rw [Oj] at b;rw [<-b] at l;refine ah ?_;rw [Ae,<-b];rw [<-b] at h;simp only [an,↓reduceIte,Int.reduceBEq,Int.reduceEq,h,dy];exact l
 | cons d r u=>
  intro i acc g o f b;obtain⟨j,v,n⟩:=bq g;have hm:=NU j;have h:(i:Int) < (a.ds.length:Int):=by omega
  have h0: 0<=(i:Int):=by omega
  obtain⟨y,m,s⟩:=jU d.ea d.ar (q d hm) (by have:=k d hm;omega);have p:=u (i+1) (acc++ [d]) n (by omega) (by simp [f]) (by rw [<-b];simp);refine ah ?_;rw [Ae];simp only [an,↓reduceIte,Int.reduceBEq,Int.reduceEq,h,h0,and_self,cj,dh j,m,s,NW,cE (show acc.length+1<=1000000 by omega),next i (by omega),Ii];exact p
theorem Ls{a:As}(wf:qf a)(l:a.ds.length<=1000)(o:a.ns.length<=1000)(G:a.hs.length<=1000)(f:∀d∈a.ds,d.ar.length<=1000)(m:∀x∈a.ns,x.ks.length<=1000):
  ∃x y z,Or (.call 29) [AG a] []=some [x,y,z]/\x.ak 3=some (a.ds.isEmpty,aM a.ds)/\y.ak 5=some (a.ns.isEmpty,ba a.ns)/\z.ak 1=some (a.eh,enc a.hs):=by
 obtain⟨v,g,p⟩:=jU a.eh a.hs wf.h (by omega);obtain⟨⟨q,B,C⟩,⟨s,D,E⟩⟩:=JD (e:=a.en) (eh:=a.eh) (ns:=a.ns) (hs:=a.hs) (dl:=aM a.ds) o wf.n m;cases b:a.ds with
 | nil=>
  have i:Or mh [r0,r1,Y'2,AV.t (T.ab 3 a.ed (aM a.ds)),I (a.ds.length:Int),I 0] [ca a,cL,ad.box [AV.t (T.ae true),AV.t (T.ae true),o3],ad.sl false 1 a.eh (enc a.hs)]=some [T.ae true,s,T.ab 1 a.eh (enc a.hs)]:=by refine ah ?_;rw [Ac,b];simp only [an,↓reduceIte,Int.reduceBEq,Int.reduceEq,N7,On,Ox,decide_false,dy];exact D
  refine⟨T.ae true,s,T.ab 1 a.eh (enc a.hs),ah ?_,rfl,E,by rw [aW]⟩;rw [Ab];simp only [an,↓reduceIte,Int.reduceBEq,Int.reduceEq,g,p,cj];exact i
 | cons d r=>
  have hm:d∈a.ds:=by rw [b];exact NN
  have j:=JB (a:=a) (e:=a.ed) (eh:=a.eh) (hs:=a.hs) l wf.d f B r 1 [d] (by rw [b];rfl) (by rw [b];simp) rfl (by rw [b];rfl);have w:(0:Int) < (((d::r).length:Nat):Int):=by simp
  have h0:(0:Int)<=0:=by omega
  have u:(aM (d::r))[(0:Int).toNat]? =some [T.str d.nm,T.ab 1 d.ea (enc d.ar),ti d.so]:=rfl;have F:i64.wrap (0+1)= ((1:Nat):Int):=by decide
  obtain⟨y,k,A⟩:=jU d.ea d.ar (wf.d d hm) (by have:=f d hm;omega);have i:Or mh [r0,r1,Y'2,AV.t (T.ab 3 a.ed (aM a.ds)),I (a.ds.length:Int),I 0] [ca a,cL,ad.box [AV.t (T.ae true),AV.t (T.ae true),o3],ad.sl false 1 a.eh (enc a.hs)]=some [T.ab 3 false (aM a.ds),q,T.ab 1 a.eh (enc a.hs)]:=by refine ah ?_;rw [Ac,b];rw [b] at j;simp only [an,↓reduceIte,Int.reduceBEq,Int.reduceEq,w,h0,and_self,cj,u,k,A,F];rw [<-b] at j⊢;exact j
  refine⟨T.ab 3 false (aM a.ds),q,T.ab 1 a.eh (enc a.hs),ah ?_,by rw [b];rfl,C,by rw [aW]⟩;rw [Ab];simp only [an,↓reduceIte,Int.reduceBEq,Int.reduceEq,g,p,cj];exact i
def lB(a:As)(es:Bool)(ss:List Int):Cx:=⟨a.ed,a.ds,a.en,a.ns,a.eh,a.hs,fm a.ds,es,ss⟩
def tc(a:As)(es:Bool)(ss:List Int):List T:=
 if r8 a.ds ss then kS (lB a es ss) (dG (fm a.ds) 0 a.ds) (jt (fm a.ds) 0 a.ds true && decide ((((dG (fm a.ds) 0 a.ds).length:Nat):Int)<=30)) (nY (lB a es ss) a.ns ss ⟨[],[]⟩ ⟨[],[]⟩)
 else [T.ab 3 a.ds.isEmpty (aM a.ds),T.ab 5 a.ns.isEmpty (ba a.ns),T.ab 1 a.eh (enc a.hs),ti 0,ti 0]
theorem s9{a:As}{es:Bool}{ss:List Int}(wf:qf a)(ok:qg (lB a es ss))(e:∀d∈a.ds,d.ar.length<=1000){x:T}(g:Or (.call 15) [AG a] []=some [x,ti 0,ti 0])(o:x.ak 1=some (es,enc ss)):
  Or (.call 9) [AG a] []=some (tc a es ss):=by
 have D:a.ds.length<=30:=ok.dl;have F:a.ns.length<=200:=ok.nl;have E:a.hs.length<=200:=ok.hl;have m:ss.length=a.ns.length:=ok.sl;have f:∀d∈a.ds,d.nm.size<=12:=ok.ds;have b:=Lr (ed:=a.ed) (en:=a.en) (eh:=a.eh) (es:=es) (ds:=a.ds) (ns:=ba a.ns) (hs:=enc a.hs) (ss:=ss) (by omega) (by omega);unfold tc;cases n:r8 a.ds ss with
 | false=>
  rw [n] at b;obtain⟨H,I,J,q,v,w,z⟩:=Ls wf (by omega) (by omega) (by omega) e (λx hm=>by
   obtain⟨i,j⟩:=PB hm;have l:i < ss.length:=by rw [m];exact(NQ.1 j).1
   have:=(ok.nd i x _ j (NZ l)).kl;omega)
  refine ah ?_;rw [e9];simp only [an,↓reduceIte,Int.reduceBEq,Int.reduceEq,g,o,NR,b,NS,q,v,w,z];rfl
 | true=>
  rw [n] at b;have r:=Lt (ed:=a.ed) (en:=a.en) (eh:=a.eh) (ns:=ba a.ns) (hs:=enc a.hs) (show a.ds.length<=100 by omega) f;have G:(fm a.ds).size<=12:=xP f 11 us (by rw [fS];omega);obtain⟨y,u,C⟩:=Lu (p:=fm a.ds) (ed:=a.ed) (en:=a.en) (eh:=a.eh) (ds:=a.ds) (ns:=ba a.ns) (hs:=enc a.hs) (by omega) (by omega) wf.d e;have h0:dv (lB a es ss) ⟨[],[]⟩ ⟨[],[]⟩ 0:=⟨⟨λi x h=>(by simp at h),λi x h=>(by simp at h),λp h=>(by cases h),λi x h=>(by simp at h),λi x h=>(by simp at h)⟩,rfl,rfl,λk s h=>by omega,λk s h=>by omega⟩;have hl:=KB (dl:=dG (fm a.ds) 0 a.ds) (okb:=jt (fm a.ds) 0 a.ds true && decide ((((dG (fm a.ds) 0 a.ds).length:Nat):Int)<=30)) ok (show(fm a.ds).size<=100 by omega) a.ns ss 0 ⟨[],[]⟩ ⟨[],[]⟩ rfl rfl (OT _) h0 (by simp);have A:Or vt [r0,r1,Y'2,ab es ss,AV.t (T.ab 3 (dG (fm a.ds) 0 a.ds).isEmpty (aM (dG (fm a.ds) 0 a.ds))),B (jt (fm a.ds) 0 a.ds true && decide ((((dG (fm a.ds) 0 a.ds).length:Nat):Int)<=30)),Y'3,Y'3,Y'4] (M9 (lB a es ss) ⟨[],[]⟩ ⟨[],[]⟩)=some (kS (lB a es ss) (dG (fm a.ds) 0 a.ds) (jt (fm a.ds) 0 a.ds true && decide ((((dG (fm a.ds) 0 a.ds).length:Nat):Int)<=30)) (nY (lB a es ss) a.ns ss ⟨[],[]⟩ ⟨[],[]⟩)):=by refine ah ?_;rw [Ig];simp only [dy];exact hl
  simp only [↓reduceIte];refine ah ?_;rw [e9];simp only [an,↓reduceIte,Int.reduceBEq,Int.reduceEq,g,o,NR,b,r,u,C];exact A
end Go.Aev.Gen
