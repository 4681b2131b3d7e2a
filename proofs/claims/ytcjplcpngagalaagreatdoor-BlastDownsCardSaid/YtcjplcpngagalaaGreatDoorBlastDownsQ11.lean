import Derived.Test.YtcjplcpngagalaaGreatDoorBlastDownsQ10
import Derived.Lib.IndexBytes
set_option linter.all false
namespace Go.Aev.Gen
open Go Go.Aev Go.IntKind
def jL(k:Nat)(p:Nd×Bool):Row:=Row.mk k [ti p.1.op,T.ao,ti p.1.n,ti p.1.d,T.str p.1.nm] (cond p.2 none (some (p.1.ek,enc p.1.ks)))
def dH:Nat->List (Nd×Bool)->List Row
 | _,[]=> []
 | k,p::r=>jL k p::dH (k+1) r
theorem ru:∀(k:Nat) (l:List (Nd×Bool)),(dH k l).length=l.length
 | _,[]=>rfl
 | k,p::r=>by rw [dH,ME,ru,ME]
theorem CH:∀{k:Nat} {l:List (Nd×Bool)} {i:Nat} {p:Nd×Bool},l[i]? =some p->(dH k l)[i]? =some (jL (k+i) p)
 | _,[],_,_,h=>by simp at h
 | k,y::r,0,x,h=>by simp at h;subst h;rfl
 | k,y::r,i+1,x,h=>by rw [dH,NP,CH (by simpa using h),show k+1+i=k+ (i+1) by omega]
theorem CG:∀{k:Nat} {l:List (Nd×Bool)} {i:Nat} {x:Nd},l[i]? =some (x,false)->cq (k+i) (dH k l)=some (x.ek,enc x.ks)
 | _,[],_,_,h=>by simp at h
 | k,y::r,0,x,h=>by simp at h;subst h;simp [dH,jL,cq]
 | k,y::r,i+1,x,h=>by have a:=CG (k:=k+1) (l:=r) (i:=i) (x:=x) (by simpa using h);rw [show k+1+i=k+ (i+1) by omega] at a;rw [dH,cq,if_neg (by simp [jL]),a]
theorem CJ{ks:List Int}:∀{k:Nat} {l:List (Nd×Bool)} {i:Nat} {x:Nd} {g:Bool},l[i]? =some (x,g)->cH (k+i) (some (x.ek,enc ks)) (dH k l)=dH k (l.set i (⟨x.op,x.ek,ks,x.n,x.d,x.nm⟩,false))
 | _,[],_,_,_,h=>by simp at h
 | k,y::r,0,x,g,h=>by simp at h;subst h;simp [dH,jL,cH]
 | k,y::r,i+1,x,g,h=>by have a:=CJ (ks:=ks) (k:=k+1) (l:=r) (i:=i) (x:=x) (g:=g) (by simpa using h);rw [show k+1+i=k+ (i+1) by omega] at a;rw [dH,cH,if_neg (by simp [jL]),a,OC,dH]
theorem CI:∀{k:Nat} {l:List (Nd×Bool)} {i:Nat} {x:Nd} {g:Bool},l[i]? =some (x,g)->cH (k+i) none (dH k l)=dH k (l.set i (x,true))
 | _,[],_,_,_,h=>by simp at h
 | k,y::r,0,x,g,h=>by simp at h;subst h;simp [dH,jL,cH]
 | k,y::r,i+1,x,g,h=>by have a:=CI (k:=k+1) (l:=r) (i:=i) (x:=x) (g:=g) (by simpa using h);rw [show k+1+i=k+ (i+1) by omega] at a;rw [dH,cH,if_neg (by simp [jL]),a,OC,dH]
theorem CF:∀(k:Nat) (l:List Nd),dH k (l.map λx=>(x,false))=eL k l
 | _,[]=>rfl
 | k,x::r=>by rw [Nh,dH,CF (k+1) r];rfl
def dA(l:List Bool):List (List T):=l.map λb=> [tb b]
theorem kk(l:List Bool):(dA l).length=l.length:=by simp [dA]
theorem nh{l:List Bool}{i:Nat}{b:Bool}(h:l[i]? =some b):(dA l)[i]? =some [tb b]:=by simp [dA,h]
theorem Du{l:List Bool}{i:Nat}(v:Bool)(h:i < l.length):fT i 0 [tb v] (dA l)=some (dA (l.set i v)):=by unfold fT;rw [nh (MJ h)];simp [cb,dA]
theorem uq{l:List Int}{i:Nat}(v:Int)(h:i < l.length):fT i 0 [ti v] (enc l)=some (enc (l.set i v)):=by unfold fT;rw [eB (MJ h)];simp [cb,enc]
def eT(need:List Bool):List Int->List Bool
 | []=>need
 | k::r=>eT (need.set k.toNat true) r
theorem tw:∀(ks:List Int) (need:List Bool),(eT need ks).length=need.length
 | [],_=>rfl
 | k::r,need=>by rw [eT,tw r,OU]
def back(N:List Nd)(need:List Bool):Nat->List Bool
 | 0=>need
 | i+1=>back N (if need.getD i false then eT need ((N.getD i ⟨0,true,[],0,0,s0⟩).ks) else need) i
theorem yv(N:List Nd):∀(i:Nat) (need:List Bool),(back N need i).length=need.length
 | 0,_=>rfl
 | i+1,need=>by rw [back,yv N i];split <;> simp [tw]
def eF(need:List Bool):Nat->List Nd->List Int->List Nd->List Int×List Nd
 | _,[],to,out=>(to,out)
 | i,x::r,to,out=>
  if need.getD i false then eF need (i+1) r (to.set i (out.length:Int)) (out++ [⟨x.op,x.ek,x.ks.map λk=>(to.set i (out.length:Int)).getD k.toNat 0,x.n,x.d,x.nm⟩])
  else eF need (i+1) r to out
def nS(N:List Nd)(hold:List Int):List Nd×List Int:=
 let need:=back N (eT (List.replicate N.length false) hold) N.length;let q:=eF need 0 N (List.replicate N.length 0) []
 (q.2,hold.map λk=>q.1.getD k.toNat 0)
abbrev cC:ad:=ad.box [AV.t (T.af true),AV.t (T.af true),AV.t (T.af true)]
theorem IQ{N:List Nd}{eh:Bool}{hold:List Int}{ed:Bool}{ds:List (List T)}(hl:hold.length<=1000){r:List T}:∀(a:List Int) (j:Nat) (need:List Bool),hold.drop j=a->need.length=N.length->N.length<=100000->(∀k∈a,0<=k/\k < (N.length:Int))->
  Or kN [AV.ref (Id.c 2) 0,AV.ref (Id.c 3) 0,o4,I ((N.length:Int) - 1)] [ad.rows N.isEmpty 5 1 1 N.length (rows N),ad.sl false 1 eh (enc hold),ad.box [AV.t (T.ab 3 ed ds),o0,o1],cC,ad.sl false 1 false (dA (eT need a))]=some r->
  Or rQ [AV.ref (Id.c 2) 0,AV.ref (Id.c 3) 0,o4,o1,I (hold.length:Int),I (j:Int)] [ad.rows N.isEmpty 5 1 1 N.length (rows N),ad.sl false 1 eh (enc hold),ad.box [AV.t (T.ab 3 ed ds),o0,o1],cC,ad.sl false 1 false (dA need)]=some r:=by
 intro a;induction a with
 | nil=>
  intro j need g f h e b;have d:¬(j:Int) < (hold.length:Int):=by have:=bh g;omega
  have w:i64.wrap ((N.length:Int) - 1)= (N.length:Int) - 1:=wr (by omega);rw [eT] at b;refine ah ?_;rw [zz];simp only [ai,↓reduceIte,Int.reduceBEq,Int.reduceEq,d,kk,f,w];exact b
 | cons k a u=>
  intro j need g f h e b;obtain⟨n,x,o⟩:=bp g;have d:(j:Int) < (hold.length:Int):=by omega
  have h0: 0<=(j:Int):=by omega
  have v:=e k Mv;have p: 0<=k/\k < (need.length:Int):=by omega
  have m:=Du (l:=need) (i:=k.toNat) true (by omega);rw [eT] at b;have s:=u (j+1) (need.set k.toNat true) o (by simp [f]) h (λy q=>e y (Mx _ q)) b;refine ah ?_;rw [zz];simp only [ai,↓reduceIte,Int.reduceBEq,Int.reduceEq,d,h0,and_self,aC,bD n,kk,p,m,next j (by omega)];exact s
theorem IP{N:List Nd}{eh:Bool}{hold:List Int}{ed:Bool}{ds:List (List T)}{i:Nat}{x:Nd}(m:N[i]? =some x)(z:x.ks.length<=1000)(B:N.length<=100000){r:List T}:∀(a:List Int) (j:Nat) (need:List Bool),x.ks.drop j=a->need.length=N.length->(∀k∈a,0<=k/\k < (N.length:Int))->
  Or kN [AV.ref (Id.c 2) 0,AV.ref (Id.c 3) 0,o4,I ((i:Int) - 1)] [ad.rows N.isEmpty 5 1 1 N.length (rows N),ad.sl false 1 eh (enc hold),ad.box [AV.t (T.ab 3 ed ds),o0,o1],cC,ad.sl false 1 false (dA (eT need a))]=some r->
  Or rP [AV.ref (Id.c 2) 0,AV.ref (Id.c 3) 0,o4,I (i:Int),AV.row (Id.c 0) i,I (x.ks.length:Int),I (j:Int)] [ad.rows N.isEmpty 5 1 1 N.length (rows N),ad.sl false 1 eh (enc hold),ad.box [AV.t (T.ab 3 ed ds),o0,o1],cC,ad.sl false 1 false (dA need)]=some r:=by
 have C:i < N.length:=(My.1 m).1;intro a;induction a with
 | nil=>
  intro j need g f e b;have d:¬(j:Int) < (x.ks.length:Int):=by have:=bh g;omega
  have w:i64.wrap ((i:Int) - 1)= (i:Int) - 1:=wr (by omega);rw [eT] at b;refine ah ?_;rw [zw];simp only [ai,↓reduceIte,Int.reduceBEq,Int.reduceEq,d,w];exact b
 | cons k a u=>
  intro j need g f e b;obtain⟨n,A,o⟩:=bp g;have d:(j:Int) < (x.ks.length:Int):=by omega
  have h0: 0<=(j:Int):=by omega
  have v:=e k Mv;have p: 0<=k/\k < (need.length:Int):=by omega
  have h:=Du (l:=need) (i:=k.toNat) true (by omega);rw [eT] at b;have s:=u (j+1) (need.set k.toNat true) o (by simp [f]) (λy q=>e y (Mx _ q)) b;refine ah ?_;rw [zw];simp only [ai,↓reduceIte,Int.reduceBEq,Int.reduceEq,d,h0,and_self,xw m,aC,bD n,kk,p,h,next j (by omega)];exact s
theorem IK{N:List Nd}{eh:Bool}{hold:List Int}{ed:Bool}{ds:List (List T)}(s:N.length<=100000)(l:∀x∈N,x.ks.length<=1000)(m:∀(i:Nat) (x:Nd),N[i]? =some x->∀k∈x.ks,0<=k/\k < (i:Int)){r:List T}:∀(i:Nat) (need:List Bool),i<=N.length->need.length=N.length->
  Or kN [AV.ref (Id.c 2) 0,AV.ref (Id.c 3) 0,o4,I (-1)] [ad.rows N.isEmpty 5 1 1 N.length (rows N),ad.sl false 1 eh (enc hold),ad.box [AV.t (T.ab 3 ed ds),o0,o1],cC,ad.sl false 1 false (dA (back N need i))]=some r->
  Or kN [AV.ref (Id.c 2) 0,AV.ref (Id.c 3) 0,o4,I ((i:Int) - 1)] [ad.rows N.isEmpty 5 1 1 N.length (rows N),ad.sl false 1 eh (enc hold),ad.box [AV.t (T.ab 3 ed ds),o0,o1],cC,ad.sl false 1 false (dA need)]=some r:=by
 intro i;induction i with
 | zero=>intro need _ e a;exact a
 | succ i o=>
  intro need y e a;have g:i < N.length:=by omega
  have p:(((i+1:Nat):Int) - 1)= (i:Int):=by omega
  have j:(i:Int)>=0:=by omega
  have h0: 0<=(i:Int)/\(i:Int) < (need.length:Int):=by omega
  have q: 0<=(i:Int)/\(i:Int) < (N.length:Int):=by omega
  have b:=MJ g;have d:need[i]? =some (need.getD i false):=by rw [MT,MJ (by omega)];rfl
  have w:i64.wrap ((i:Int) - 1)= (i:Int) - 1:=wr (by omega);rw [p];rw [back] at a;cases f:need.getD i false with
  | false=>rw [f] at a d;have h:=o need (by omega) e (by simpa using a);refine ah ?_;rw [vr];simp only [ai,↓reduceIte,Int.reduceBEq,Int.reduceEq,j,h0,and_self,kk,Nf,nh d,w];exact h
  | true=>
   rw [f] at a d;have n:N.getD i ⟨0,true,[],0,0,s0⟩=N[i]:=by rw [MT,b];rfl
   rw [n] at a;have h:=o (eT need N[i].ks) (by omega) (by rw [tw,e]) (by simpa using a);have v:=IP (eh:=eh) (hold:=hold) (ed:=ed) (ds:=ds) b (l _ (O7 g)) s N[i].ks 0 need rfl e (λk u=>by have:=m i _ b k u;omega) h;refine ah ?_;rw [vr];simp only [ai,↓reduceIte,Int.reduceBEq,Int.reduceEq,j,h0,q,and_self,kk,Nf,nh d,aO,xx b,CE,xw b,aC];exact v
abbrev GR(L:List (Nd×Bool))(e:Bool)(n:Nat):ad:=ad.rows e 5 1 1 n (dH 0 L)
theorem sZ{L:List (Nd×Bool)}{i:Nat}{p:Nd×Bool}(h:L[i]? =some p):(dH 0 L)[i]? =some (jL i p):=by have:=CH (k:=0) h;rwa [Nc] at this
theorem oT{L:List (Nd×Bool)}{i:Nat}{x:Nd}(h:L[i]? =some (x,false)):cq i (dH 0 L)=some (x.ek,enc x.ks):=by have:=CG (k:=0) h;rwa [Nc] at this
theorem A8{ks:List Int}{L:List (Nd×Bool)}{i:Nat}{x:Nd}{g:Bool}(h:L[i]? =some (x,g)):cH i (some (x.ek,enc ks)) (dH 0 L)=dH 0 (L.set i (⟨x.op,x.ek,ks,x.n,x.d,x.nm⟩,false)):=by have:=CJ (ks:=ks) (k:=0) h;rwa [Nc] at this
theorem A7{L:List (Nd×Bool)}{i:Nat}{x:Nd}{g:Bool}(h:L[i]? =some (x,g)):cH i none (dH 0 L)=dH 0 (L.set i (x,true)):=by have:=CI (k:=0) h;rwa [Nc] at this
theorem CC(k:Nat)(p:Nd×Bool):(jL k p).n=k:=rfl
theorem tW(k:Nat)(p:Nd×Bool):(jL k p).cs= [ti p.1.op,T.ao,ti p.1.n,ti p.1.d,T.str p.1.nm]:=rfl
abbrev cQ(ed:Bool)(ds:List (List T))(x y:AV):ad:=ad.box [AV.t (T.ab 3 ed ds),x,y]
def gm(x:Nd):List T:= [ti x.op,T.ab 1 x.ek (enc x.ks),ti x.n,ti x.d,T.str x.nm]
theorem BP{eh:Bool}{hold:List Int}{ed ee:Bool}{ds:List (List T)}{need:List Bool}{to:List Int}{i n:Nat}{x:Nd}(E:n<=100000)(C:x.ks.length<=1000)(y:∀k∈x.ks,0<=k/\k < (to.length:Int)){outB:AV}{more:List ad}{r:List T}
  (step:∀(L:List (Nd×Bool)) (j:Nat) (k v:Int) (a:List Int),(j:Int) < (x.ks.length:Int)->L[i]? =some (⟨x.op,x.ek,a,x.n,x.d,x.nm⟩,false)->a[j]? =some k->(0<=k/\k < (to.length:Int))->to[k.toNat]? =some v->j < a.length->a.length=x.ks.length->
   Or fV [AV.ref (Id.c 2) 0,AV.ref (Id.c 3) 0,o4,o5,AV.ref (Id.c 6) 0,AV.ref (Id.c 7) 0,o0,I (n:Int),I (i:Int),AV.row (Id.c 0) i,I (x.ks.length:Int),I ((j+1:Nat):Int)] ([GR (L.set i (⟨x.op,x.ek,a.set j v,x.n,x.d,x.nm⟩,false)) ee n,ad.sl false 1 eh (enc hold),cQ ed ds o0 o1,cC,ad.sl false 1 false (dA need),ad.sl false 1 false (enc to),cQ ed ds outB (AV.t (T.af true)),ad.box [I x.op,AV.row (Id.c 0) i,I x.n,I x.d,AV.t (T.str x.nm)]] ++more)=some r->
   Or fV [AV.ref (Id.c 2) 0,AV.ref (Id.c 3) 0,o4,o5,AV.ref (Id.c 6) 0,AV.ref (Id.c 7) 0,o0,I (n:Int),I (i:Int),AV.row (Id.c 0) i,I (x.ks.length:Int),I (j:Int)] ([GR L ee n,ad.sl false 1 eh (enc hold),cQ ed ds o0 o1,cC,ad.sl false 1 false (dA need),ad.sl false 1 false (enc to),cQ ed ds outB (AV.t (T.af true)),ad.box [I x.op,AV.row (Id.c 0) i,I x.n,I x.d,AV.t (T.str x.nm)]] ++more)=some r):
  ∀(b:List Int) (j:Nat) (L:List (Nd×Bool)) (a:List Int),x.ks.drop j=b->j<=x.ks.length->i < L.length->a.length=j->L[i]? =some (⟨x.op,x.ek,a++b,x.n,x.d,x.nm⟩,false)->
   Or fV [AV.ref (Id.c 2) 0,AV.ref (Id.c 3) 0,o4,o5,AV.ref (Id.c 6) 0,AV.ref (Id.c 7) 0,o0,I (n:Int),I (i:Int),AV.row (Id.c 0) i,I (x.ks.length:Int),I (x.ks.length:Int)] ([GR (L.set i (⟨x.op,x.ek,a++b.map (λk=>to.getD k.toNat 0),x.n,x.d,x.nm⟩,false)) ee n,ad.sl false 1 eh (enc hold),cQ ed ds o0 o1,cC,ad.sl false 1 false (dA need),ad.sl false 1 false (enc to),cQ ed ds outB (AV.t (T.af true)),ad.box [I x.op,AV.row (Id.c 0) i,I x.n,I x.d,AV.t (T.str x.nm)]] ++more)=some r->
   Or fV [AV.ref (Id.c 2) 0,AV.ref (Id.c 3) 0,o4,o5,AV.ref (Id.c 6) 0,AV.ref (Id.c 7) 0,o0,I (n:Int),I (i:Int),AV.row (Id.c 0) i,I (x.ks.length:Int),I (j:Int)] ([GR L ee n,ad.sl false 1 eh (enc hold),cQ ed ds o0 o1,cC,ad.sl false 1 false (dA need),ad.sl false 1 false (enc to),cQ ed ds outB (AV.t (T.af true)),ad.box [I x.op,AV.row (Id.c 0) i,I x.n,I x.d,AV.t (T.str x.nm)]] ++more)=some r:=by
 intro b;induction b with
 | nil=>
  intro j L a g w f e l h;have q:j=x.ks.length:=by have:=bh g;omega
  have m:L.set i (⟨x.op,x.ek,a++ ([]:List Int).map (λk=>to.getD k.toNat 0),x.n,x.d,x.nm⟩,false)=L:=by have u:=(My.1 l).2;rw [ND,<-u,List.set_getElem_self]
  rw [m] at h;rw [q];exact h
 | cons k b B=>
  intro j L a g w f e l h;obtain⟨s,D,o⟩:=bp g;have p:=y k (MD s);have A:to[k.toNat]? =some (to.getD k.toNat 0):=by rw [MT,MJ (by omega)];rfl
  have z:=yV o (by omega);refine step L j k (to.getD k.toNat 0) (a++k::b) (by omega) l (by rw [Nt (by omega),e,Pf];rfl) p A (by simp;omega) (by simp;omega) ?_;have hs:(a++k::b).set j (to.getD k.toNat 0)= (a++ [to.getD k.toNat 0])++b:=by rw [List.set_append_right _ _ (by omega),e,Pf,OW,MY];rfl
  rw [hs];refine B (j+1) _ (a++ [to.getD k.toNat 0]) o (by omega) (by simpa using f) (by simp [e]) ?_ ?_
  .rw [OI f]
  .rw [List.set_set];rw [Nh] at h;simpa only [MY,M5] using h
def eK(need:List Bool)(i:Nat)(N:List Nd)(D:Nat->Nd):List (Nd×Bool):=N.mapIdx λj x=>if j < i then(if need.getD j false then(D j,true) else(x,false)) else(x,false)
theorem wu(need:List Bool)(i:Nat)(N:List Nd)(D:Nat->Nd):(eK need i N D).length=N.length:=by simp [eK]
theorem wq{need:List Bool}{i j:Nat}{N:List Nd}{D:Nat->Nd}{x:Nd}(h:N[j]? =some x):(eK need i N D)[j]? =some (if j < i then(if need.getD j false then(D j,true) else(x,false)) else(x,false)):=by unfold eK;rw [Oa,h];rfl
theorem Bb{need:List Bool}{i:Nat}{N:List Nd}{D:Nat->Nd}(h:need.getD i false=false):eK need (i+1) N D=eK need i N D:=by
 unfold eK;refine NJ λj=> ?_;rw [Oa,Oa];cases N[j]? with
 | none=>rfl
 | some x=>
  simp only [N1];by_cases e:j=i
  .subst e;rw [if_pos (OO _),h,if_neg (NQ _)];rfl
  .by_cases a:j < i
   .rw [if_pos a,if_pos (by omega)]
   .rw [if_neg a,if_neg (by omega)]
theorem Bc{need:List Bool}{i:Nat}{N:List Nd}{D a:Nat->Nd}{y:Nd}(h:need.getD i false=true)(d:i < N.length)(c:a=λj=>if j=i then y else D j):eK need (i+1) N a= (eK need i N D).set i (y,true):=by
 refine NJ λj=> ?_;by_cases e:j=i
 .subst e;rw [OI (by rw [wu];exact d),wq (MJ d),if_pos (OO _),h,c];simp
 .rw [List.getElem?_set_ne (O9 e)];unfold eK;rw [Oa,Oa];cases N[j]? with
  | none=>rfl
  | some x=>
   simp only [N1];by_cases b:j < i
   .rw [if_pos b,if_pos (by omega),c];simp only [if_neg e]
   .rw [if_neg b,if_neg (by omega)]
theorem HA(need:List Bool)(N:List Nd)(D:Nat->Nd):eK need 0 N D=N.map λx=>(x,false):=by unfold eK;refine NJ λj=> ?_;rw [Oa,Nz];cases N[j]? <;> simp
open Go Go.Aev Go.IntKind
abbrev MF(L:List (Nd×Bool))(ee eh ed:Bool)(n:Nat)(hold:List Int)(ds:List (List T))(need:List Bool)(to:List Int)(x:AV):List ad:=
 [GR L ee n,ad.sl false 1 eh (enc hold),cQ ed ds o0 o1,cC,ad.sl false 1 false (dA need),ad.sl false 1 false (enc to),cQ ed ds x (AV.t (T.af true))]
theorem HD{eh ee ed:Bool}{hold:List Int}{ds:List (List T)}{need:List Bool}{to:List Int}{i n:Nat}{x:Nd}(z:n<=100000)(m:x.ks.length<=1000)(w:∀k∈x.ks,0<=k/\k < (to.length:Int)){L:List (Nd×Bool)}(g:i < L.length)(s:L[i]? =some (x,false)){r:List T}
  (e:Or hH [AV.ref (Id.c 2) 0,AV.ref (Id.c 3) 0,o4,o5,AV.ref (Id.c 6) 0,o0,I (n:Int),I ((i+1:Nat):Int)] (MF (L.set i (⟨x.op,x.ek,x.ks.map λk=>to.getD k.toNat 0,x.n,x.d,x.nm⟩,true)) ee eh ed n hold ds need to (AV.own (Id.c 7))++ [ad.sl false 5 false [gm ⟨x.op,x.ek,x.ks.map λk=>to.getD k.toNat 0,x.n,x.d,x.nm⟩]])=some r) (B:i<=100000):
  Or fV [AV.ref (Id.c 2) 0,AV.ref (Id.c 3) 0,o4,o5,AV.ref (Id.c 6) 0,AV.ref (Id.c 7) 0,o0,I (n:Int),I (i:Int),AV.row (Id.c 0) i,I (x.ks.length:Int),I 0] (MF L ee eh ed n hold ds need to (AV.t (T.af true))++ [ad.box [I x.op,AV.row (Id.c 0) i,I x.n,I x.d,AV.t (T.str x.nm)]])=some r:=by
 refine BP (need:=need) (outB:=AV.t (T.af true)) (more:= []) z m w (λL j k v o p f l h A u y e=> ?_) x.ks 0 L [] rfl (Oj _) g rfl s ?_
 .have h0: 0<=(j:Int):=by omega
  have q:(j:Int) < (o.length:Int):=by omega
  refine ah ?_;show ax ak ann Or fV _ [GR L ee n,ad.sl false 1 eh (enc hold),cQ ed ds o0 o1,cC,ad.sl false 1 false (dA need),ad.sl false 1 false (enc to),cQ ed ds (AV.t (T.af true)) (AV.t (T.af true)),ad.box [I x.op,AV.row (Id.c 0) i,I x.n,I x.d,AV.t (T.str x.nm)]]=_;rw [zx];simp only [ai,↓reduceIte,Int.reduceBEq,Int.reduceEq,p,h0,and_self,oT f,aC,q,eB l,h,eB A,Nf,uq v u,next j (by omega)];have:=A8 (ks:=o.set j v) f;rw [this];exact e
 .have a:(L.set i (⟨x.op,x.ek,[] ++x.ks.map (λk=>to.getD k.toNat 0),x.n,x.d,x.nm⟩,false))[i]? =some (⟨x.op,x.ek,x.ks.map λk=>to.getD k.toNat 0,x.n,x.d,x.nm⟩,false):=by
   rw [OI g];rfl
  have b:=A7 a;rw [List.set_set] at b;refine ah ?_;show ax ak ann Or fV _ [GR (L.set i (⟨x.op,x.ek,[] ++x.ks.map (λk=>to.getD k.toNat 0),x.n,x.d,x.nm⟩,false)) ee n,ad.sl false 1 eh (enc hold),cQ ed ds o0 o1,cC,ad.sl false 1 false (dA need),ad.sl false 1 false (enc to),cQ ed ds (AV.t (T.af true)) (AV.t (T.af true)),ad.box [I x.op,AV.row (Id.c 0) i,I x.n,I x.d,AV.t (T.str x.nm)]]=_;rw [zx];simp only [ai,↓reduceIte,Int.reduceBEq,Int.reduceEq,Na,decide_false,oT a,b,next i (by omega)];exact e
theorem HE{eh ee ed:Bool}{hold:List Int}{ds:List (List T)}{need:List Bool}{to:List Int}{i n:Nat}{x:Nd}{out:List Nd}(C:out.length<=100000)(z:n<=100000)(m:x.ks.length<=1000)(w:∀k∈x.ks,0<=k/\k < (to.length:Int)){L:List (Nd×Bool)}(g:i < L.length)(s:L[i]? =some (x,false)){r:List T}
  (a:Or hH [AV.ref (Id.c 2) 0,AV.ref (Id.c 3) 0,o4,o5,AV.ref (Id.c 6) 0,o0,I (n:Int),I ((i+1:Nat):Int)] (MF (L.set i (⟨x.op,x.ek,x.ks.map λk=>to.getD k.toNat 0,x.n,x.d,x.nm⟩,true)) ee eh ed n hold ds need to (AV.own (Id.c 7))++ [ad.sl false 5 false ((out++ [(⟨x.op,x.ek,x.ks.map λk=>to.getD k.toNat 0,x.n,x.d,x.nm⟩:Nd)]).map gm)])=some r) (B:i<=100000):
  Or fV [AV.ref (Id.c 2) 0,AV.ref (Id.c 3) 0,o4,o5,AV.ref (Id.c 6) 0,AV.ref (Id.c 7) 0,o0,I (n:Int),I (i:Int),AV.row (Id.c 0) i,I (x.ks.length:Int),I 0] (MF L ee eh ed n hold ds need to (AV.own (Id.c 8))++ [ad.box [I x.op,AV.row (Id.c 0) i,I x.n,I x.d,AV.t (T.str x.nm)],ad.sl false 5 false (out.map gm)])=some r:=by
 refine BP (need:=need) (outB:=AV.own (Id.c 8)) (more:= [ad.sl false 5 false (out.map gm)]) z m w (λL j k v o p f l h A u y a=> ?_) x.ks 0 L [] rfl (Oj _) g rfl s ?_
 .have h0: 0<=(j:Int):=by omega
  have q:(j:Int) < (o.length:Int):=by omega
  refine ah ?_;show ax ak ann Or fV _ [GR L ee n,ad.sl false 1 eh (enc hold),cQ ed ds o0 o1,cC,ad.sl false 1 false (dA need),ad.sl false 1 false (enc to),cQ ed ds (AV.own (Id.c 8)) (AV.t (T.af true)),ad.box [I x.op,AV.row (Id.c 0) i,I x.n,I x.d,AV.t (T.str x.nm)],ad.sl false 5 false (out.map gm)]=_;rw [zy];simp only [ai,↓reduceIte,Int.reduceBEq,Int.reduceEq,p,h0,and_self,oT f,aC,q,eB l,h,eB A,Nf,uq v u,next j (by omega)];have:=A8 (ks:=o.set j v) f;rw [this];exact a
 .have b:(L.set i (⟨x.op,x.ek,[] ++x.ks.map (λk=>to.getD k.toNat 0),x.n,x.d,x.nm⟩,false))[i]? =some (⟨x.op,x.ek,x.ks.map λk=>to.getD k.toNat 0,x.n,x.d,x.nm⟩,false):=by
   rw [OI g];rfl
  have e:=A7 b;rw [List.set_set] at e;rw [OE] at a;refine ah ?_;show ax ak ann Or fV _ [GR (L.set i (⟨x.op,x.ek,[] ++x.ks.map (λk=>to.getD k.toNat 0),x.n,x.d,x.nm⟩,false)) ee n,ad.sl false 1 eh (enc hold),cQ ed ds o0 o1,cC,ad.sl false 1 false (dA need),ad.sl false 1 false (enc to),cQ ed ds (AV.own (Id.c 8)) (AV.t (T.af true)),ad.box [I x.op,AV.row (Id.c 0) i,I x.n,I x.d,AV.t (T.str x.nm)],ad.sl false 5 false (out.map gm)]=_;rw [zy];simp only [ai,↓reduceIte,Int.reduceBEq,Int.reduceEq,Na,decide_false,oT b,e,next i (by omega),NM,MC,cm (show out.length+1<=1000000 by omega)];exact a
theorem Bt{need:List Bool}{i:Nat}{x:Nd}{r:List Nd}{to:List Int}{out:List Nd}(h:need.getD i false=true):eF need i (x::r) to out=eF need (i+1) r (to.set i (out.length:Int)) (out++ [⟨x.op,x.ek,x.ks.map λk=>(to.set i (out.length:Int)).getD k.toNat 0,x.n,x.d,x.nm⟩]):=by rw [eF,if_pos h]
theorem Bs{need:List Bool}{i:Nat}{x:Nd}{r:List Nd}{to:List Int}{out:List Nd}(h:need.getD i false=false):eF need i (x::r) to out=eF need (i+1) r to out:=by rw [eF,if_neg (by rw [h];simp)]
theorem IM{N:List Nd}{eh ee ed:Bool}{hold:List Int}{ds:List (List T)}{need:List Bool}(K:N.length<=90000)(w:∀x∈N,x.ks.length<=1000)(y:∀(i:Nat) (x:Nd),N[i]? =some x->∀k∈x.ks,0<=k/\k < (i:Int))(H:need.length=N.length){r:List T}:∀(a:List Nd) (i:Nat) (to:List Int) (out:List Nd) (D:Nat->Nd),N.drop i=a->i<=N.length->to.length=N.length->out.length<=i->
  (∀L,Or fe [AV.ref (Id.c 2) 0,AV.own (Id.c 3),AV.ref (Id.c 4) 0,o1,I (hold.length:Int),I 0] [GR L ee N.length,ad.sl false 1 eh (enc hold),cC,ad.sl false 1 false (enc (eF need i a to out).1),cQ ed ds (AV.own (Id.c 5)) (AV.t (T.af true)),ad.sl false 5 false ((eF need i a to out).2.map gm)]=some r)->
  Or hH [AV.ref (Id.c 2) 0,AV.ref (Id.c 3) 0,o4,o5,AV.ref (Id.c 6) 0,o0,I (N.length:Int),I (i:Int)] (MF (eK need i N D) ee eh ed N.length hold ds need to (AV.own (Id.c 7))++ [ad.sl false 5 false (out.map gm)])=some r:=by
 intro a;induction a with
 | nil=>
  intro i to out D g E h A e;have o:¬(i:Int) < (N.length:Int):=by have:=bh g;omega
  refine ah ?_;show ax ak ann Or hH _ [GR (eK need i N D) ee N.length,ad.sl false 1 eh (enc hold),cQ ed ds o0 o1,cC,ad.sl false 1 false (dA need),ad.sl false 1 false (enc to),cQ ed ds (AV.own (Id.c 7)) (AV.t (T.af true)),ad.sl false 5 false (out.map gm)]=_;rw [vq];simp only [ai,↓reduceIte,Int.reduceBEq,Int.reduceEq,o,aC];exact e _
 | cons x a B=>
  intro i to out D g E h A e;obtain⟨s,J,u⟩:=bp g;have o:(i:Int) < (N.length:Int):=by omega
  have h0: 0<=(i:Int):=by omega
  have p:need[i]? =some (need.getD i false):=by rw [MT,MJ (by omega)];rfl
  have q:(eK need i N D)[i]? =some (x,false):=by rw [wq s,if_neg (NQ _)]
  have f:=wu need i N D;have v:(i:Int) < (need.length:Int):=by omega
  cases b:need.getD i false with
  | false=>rw [b] at p;rw [Bs b] at e;have m:=B (i+1) to out D u (by omega) h (by omega) e;rw [Bb b] at m;refine ah ?_;show ax ak ann Or hH _ [GR (eK need i N D) ee N.length,ad.sl false 1 eh (enc hold),cQ ed ds o0 o1,cC,ad.sl false 1 false (dA need),ad.sl false 1 false (enc to),cQ ed ds (AV.own (Id.c 7)) (AV.t (T.af true)),ad.sl false 5 false (out.map gm)]=_;rw [vq];simp only [ai,↓reduceIte,Int.reduceBEq,Int.reduceEq,o,h0,and_self,ru,f,Nf,sZ q,tW,kk,v,nh p,MA,next i (by omega)];exact m
  | true=>
   rw [b] at p;rw [Bt b] at e;have C:(i:Int) < (to.length:Int):=by omega
   have z:=y i x s;have m:=B (i+1) (to.set i (out.length:Int)) (out++ [⟨x.op,x.ek,x.ks.map λk=>(to.set i (out.length:Int)).getD k.toNat 0,x.n,x.d,x.nm⟩]) (λj=>if j=i then⟨x.op,x.ek,x.ks.map λk=>(to.set i (out.length:Int)).getD k.toNat 0,x.n,x.d,x.nm⟩ else D j) u (by omega) (by simp [h]) (by simp;omega) e;rw [Bc b (by omega) rfl] at m;have G:=HE (eh:=eh) (ee:=ee) (ed:=ed) (hold:=hold) (ds:=ds) (need:=need) (to:=to.set i (out.length:Int)) (i:=i) (n:=N.length) (x:=x) (out:=out) (by omega) (by omega) (w x (MD s)) (λk F=>by have:=z k F;rw [OU];omega) (L:=eK need i N D) (by rw [f];omega) q m (by omega);refine ah ?_;show ax ak ann Or hH _ [GR (eK need i N D) ee N.length,ad.sl false 1 eh (enc hold),cQ ed ds o0 o1,cC,ad.sl false 1 false (dA need),ad.sl false 1 false (enc to),cQ ed ds (AV.own (Id.c 7)) (AV.t (T.af true)),ad.sl false 5 false (out.map gm)]=_;rw [vq];simp only [ai,↓reduceIte,Int.reduceBEq,Int.reduceEq,o,h0,and_self,ru,f,Nf,sZ q,tW,CC,kk,v,nh p,Mz,aC,C,NM,uq (l:=to) (i:=i) (out.length:Int) (by omega),oT q];exact G
def LN(l:List Nd):T:=if l.isEmpty then T.af true else T.ab 5 false (aV l)
theorem HT(l:List Nd):(LN l).an 5=some (l.isEmpty,aV l):=by cases l <;> rfl
abbrev FB(L:List (Nd×Bool))(ee eh ed:Bool)(n:Nat)(hold:List Int)(ds:List (List T))(to:List Int)(out:List Nd):List ad:=
 match out with
 | []=> [GR L ee n,ad.sl false 1 eh (enc hold),cC,ad.sl false 1 false (enc to),cQ ed ds (AV.t (T.af true)) (AV.t (T.af true))]
 | x::r=> [GR L ee n,ad.sl false 1 eh (enc hold),cC,ad.sl false 1 false (enc to),cQ ed ds (AV.own (Id.c 5)) (AV.t (T.af true)),ad.sl false 5 false ((x::r).map gm)]
theorem wG{need:List Bool}:∀(a:List Nd) (i:Nat) (to:List Int) (out:List Nd),out≠[]->(eF need i a to out).2≠[]
 | [],_,_,_,h=>h
 | x::a,i,to,out,h=>by
  rw [eF];split
  .exact wG a _ _ _ (by simp)
  .exact wG a _ _ _ h
theorem IL{N:List Nd}{eh ee ed:Bool}{hold:List Int}{ds:List (List T)}{need:List Bool}(J:N.length<=90000)(z:∀x∈N,x.ks.length<=1000)(A:∀(i:Nat) (x:Nd),N[i]? =some x->∀k∈x.ks,0<=k/\k < (i:Int))(G:need.length=N.length){r:List T}:∀(e:List Nd) (i:Nat) (to:List Int) (D:Nat->Nd),N.drop i=e->i<=N.length->to.length=N.length->
  (∀L,Or fe [AV.ref (Id.c 2) 0,AV.own (Id.c 3),AV.ref (Id.c 4) 0,o1,I (hold.length:Int),I 0] (FB L ee eh ed N.length hold ds (eF need i e to []).1 (eF need i e to []).2)=some r)->
  Or hH [AV.ref (Id.c 2) 0,AV.ref (Id.c 3) 0,o4,o5,AV.ref (Id.c 6) 0,o0,I (N.length:Int),I (i:Int)] (MF (eK need i N D) ee eh ed N.length hold ds need to (AV.t (T.af true)))=some r:=by
 intro e;induction e with
 | nil=>
  intro i to D g K u o;have m:¬(i:Int) < (N.length:Int):=by have:=bh g;omega
  refine ah ?_;rw [vp];simp only [ai,↓reduceIte,Int.reduceBEq,Int.reduceEq,m,aC];exact o _
 | cons x e P=>
  intro i to D g K u o;obtain⟨B,Q,C⟩:=bp g;have m:(i:Int) < (N.length:Int):=by omega
  have h0: 0<=(i:Int):=by omega
  have w:need[i]? =some (need.getD i false):=by rw [MT,MJ (by omega)];rfl
  have y:(eK need i N D)[i]? =some (x,false):=by rw [wq B,if_neg (NQ _)]
  have s:=wu need i N D;have p:(i:Int) < (need.length:Int):=by omega
  cases f:need.getD i false with
  | false=>rw [f] at w;rw [Bs f] at o;have v:=P (i+1) to D C (by omega) u o;rw [Bb f] at v;refine ah ?_;rw [vp];simp only [ai,↓reduceIte,Int.reduceBEq,Int.reduceEq,m,h0,and_self,ru,s,Nf,sZ y,tW,kk,p,nh w,MA,next i (by omega)];exact v
  | true=>
   rw [f] at w;rw [Bt f] at o;have H:(i:Int) < (to.length:Int):=by omega
   have E:=A i x B;have v:=IM (eh:=eh) (ee:=ee) (ed:=ed) (hold:=hold) (ds:=ds) (need:=need) J z A G (r:=r) e (i+1) (to.set i ((0:Nat):Int)) [⟨x.op,x.ek,x.ks.map λk=>(to.set i ((0:Nat):Int)).getD k.toNat 0,x.n,x.d,x.nm⟩] (λj=>if j=i then⟨x.op,x.ek,x.ks.map λk=>(to.set i ((0:Nat):Int)).getD k.toNat 0,x.n,x.d,x.nm⟩ else D j) C (by omega) (by simp [u]) (by simp) (λL=>by
    have h:=o L;have F:=wG (need:=need) e (i+1) (to.set i ((0:Nat):Int)) [⟨x.op,x.ek,x.ks.map λk=>(to.set i ((0:Nat):Int)).getD k.toNat 0,x.n,x.d,x.nm⟩] (by simp);simp only [MS,Oq] at h;revert h F;generalize (eF need (i+1) e (to.set i ((0:Nat):Int)) [⟨x.op,x.ek,x.ks.map λk=>(to.set i ((0:Nat):Int)).getD k.toNat 0,x.n,x.d,x.nm⟩]).2=q;intro m p;cases q with
    | nil=>first | exact absurd rfl m | exact absurd rfl p
    | cons a b=>first | exact m | exact p)
   rw [Bc f (by omega) rfl] at v;have O:=HD (eh:=eh) (ee:=ee) (ed:=ed) (hold:=hold) (ds:=ds) (need:=need) (to:=to.set i ((0:Nat):Int)) (i:=i) (n:=N.length) (x:=x) (by omega) (z x (MD B)) (λk M=>by have:=E k M;rw [OU];omega) (L:=eK need i N D) (by rw [s];omega) y v (by omega);refine ah ?_;rw [vp];simp only [ai,↓reduceIte,Int.reduceBEq,Int.reduceEq,m,h0,and_self,ru,s,Nf,sZ y,tW,CC,kk,p,nh w,Mz,aC,H,uq (l:=to) (i:=i) (0:Int) (by omega),oT y];exact O
theorem IN{L:List (Nd×Bool)}{ee eh ed:Bool}{n:Nat}{hold:List Int}{ds:List (List T)}{to:List Int}{out:List Nd}(hl:hold.length<=1000)(p:∀k∈hold,0<=k/\k < (to.length:Int)):
  Or fe [AV.ref (Id.c 2) 0,AV.own (Id.c 3),AV.ref (Id.c 4) 0,o1,I (hold.length:Int),I 0] (FB L ee eh ed n hold ds to out)=some [T.ab 3 ed ds,LN out,LO (hold.map λk=>to.getD k.toNat 0)]:=by
 have q:∀k∈hold,to[k.toNat]? =some (to.getD k.toNat 0):=λk hm=>by have:=p k hm;rw [MT,MJ (by omega)];rfl
 cases out with
 | nil=>
  have v:∀(b:List Int) (j:Nat) (a:List Int),hold.drop j=b->j<=hold.length->a.length=j->
    Or fe [AV.ref (Id.c 2) 0,AV.own (Id.c 3),AV.ref (Id.c 4) 0,o1,I (hold.length:Int),I (j:Int)] [GR L ee n,ad.sl false 1 eh (enc hold),cC,ad.sl false 1 false (enc to),cQ ed ds (AV.t (T.af true)) (AV.own (Id.c 5)),ad.sl false 1 false (enc a)]=some [T.ab 3 ed ds,T.af true,T.ab 1 false (enc (a++b.map λk=>to.getD k.toNat 0))]:=by
   intro b;induction b with
   | nil=>
    intro j a g s f;have e:¬(j:Int) < (hold.length:Int):=by have:=bh g;omega
    refine ah ?_;rw [zB];simp only [ai,↓reduceIte,Int.reduceBEq,Int.reduceEq,e,ND,MU]
   | cons k b u=>
    intro j a g s f;obtain⟨d,y,r⟩:=bp g;have e:(j:Int) < (hold.length:Int):=by omega
    have h0: 0<=(j:Int):=by omega
    have i:=p k (MD d);have m:=q k (MD d);have o:=u (j+1) (a++ [to.getD k.toNat 0]) r (by omega) (by simp [f]);simp only [MY,M5] at o;rw [Nh];refine ah ?_;rw [zB];simp only [ai,↓reduceIte,Int.reduceBEq,Int.reduceEq,e,h0,and_self,aC,bD d,i,eB m,MC,cm (show a.length+1<=1000000 by omega),next j (by omega),dP];exact o
  cases h:hold with
  | nil=>refine ah ?_;show ax ak ann Or fe _ [GR L ee n,ad.sl false 1 eh (enc []),cC,ad.sl false 1 false (enc to),cQ ed ds (AV.t (T.af true)) (AV.t (T.af true))]=_;rw [zA];simp only [ai,↓reduceIte,Int.reduceBEq,Int.reduceEq,MS,M4,Na,decide_false];rfl
  | cons k b=>
   have i:=p k (by rw [h];exact Mv);have m:=q k (by rw [h];exact Mv);have o:=v b 1 [to.getD k.toNat 0] (by rw [h];rfl) (by rw [h];simp) rfl;rw [h] at o;have e:(0:Int) < (((k::b).length:Nat):Int):=by simp
   have h0:(0:Int)<=0:=by omega
   have d:(enc (k::b))[(0:Int).toNat]? =some [ti k]:=rfl;have w:i64.wrap (0+1)= ((1:Nat):Int):=by decide
   refine ah ?_;show ax ak ann Or fe _ [GR L ee n,ad.sl false 1 eh (enc (k::b)),cC,ad.sl false 1 false (enc to),cQ ed ds (AV.t (T.af true)) (AV.t (T.af true))]=_;rw [zA];simp only [ai,↓reduceIte,Int.reduceBEq,Int.reduceEq,e,h0,and_self,aC,d,i,eB m,w];exact o
 | cons x xs=>
  have v:∀(b:List Int) (j:Nat) (a:List Int),hold.drop j=b->j<=hold.length->a.length=j->
    Or fe [AV.ref (Id.c 2) 0,AV.own (Id.c 3),AV.ref (Id.c 4) 0,o1,I (hold.length:Int),I (j:Int)] [GR L ee n,ad.sl false 1 eh (enc hold),cC,ad.sl false 1 false (enc to),cQ ed ds (AV.own (Id.c 5)) (AV.own (Id.c 6)),ad.sl false 5 false ((x::xs).map gm),ad.sl false 1 false (enc a)]=some [T.ab 3 ed ds,T.ab 5 false ((x::xs).map gm),T.ab 1 false (enc (a++b.map λk=>to.getD k.toNat 0))]:=by
   intro b;induction b with
   | nil=>
    intro j a g s f;have e:¬(j:Int) < (hold.length:Int):=by have:=bh g;omega
    refine ah ?_;rw [zD];simp only [ai,↓reduceIte,Int.reduceBEq,Int.reduceEq,e,ND,MU]
   | cons k b u=>
    intro j a g s f;obtain⟨d,y,r⟩:=bp g;have e:(j:Int) < (hold.length:Int):=by omega
    have h0: 0<=(j:Int):=by omega
    have i:=p k (MD d);have m:=q k (MD d);have o:=u (j+1) (a++ [to.getD k.toNat 0]) r (by omega) (by simp [f]);simp only [MY,M5] at o;rw [Nh (l:=b)];refine ah ?_;rw [zD];simp only [ai,↓reduceIte,Int.reduceBEq,Int.reduceEq,e,h0,and_self,aC,bD d,i,eB m,MC,cm (show a.length+1<=1000000 by omega),next j (by omega),dP];exact o
  cases h:hold with
  | nil=>refine ah ?_;show ax ak ann Or fe _ [GR L ee n,ad.sl false 1 eh (enc []),cC,ad.sl false 1 false (enc to),cQ ed ds (AV.own (Id.c 5)) (AV.t (T.af true)),ad.sl false 5 false ((x::xs).map gm)]=_;rw [zC];simp only [ai,↓reduceIte,Int.reduceBEq,Int.reduceEq,MS,M4,Na,decide_false];rfl
  | cons k b=>
   have i:=p k (by rw [h];exact Mv);have m:=q k (by rw [h];exact Mv);have o:=v b 1 [to.getD k.toNat 0] (by rw [h];rfl) (by rw [h];simp) rfl;rw [h] at o;have e:(0:Int) < (((k::b).length:Nat):Int):=by simp
   have h0:(0:Int)<=0:=by omega
   have d:(enc (k::b))[(0:Int).toNat]? =some [ti k]:=rfl;have w:i64.wrap (0+1)= ((1:Nat):Int):=by decide
   refine ah ?_;show ax ak ann Or fe _ [GR L ee n,ad.sl false 1 eh (enc (k::b)),cC,ad.sl false 1 false (enc to),cQ ed ds (AV.own (Id.c 5)) (AV.t (T.af true)),ad.sl false 5 false ((x::xs).map gm)]=_;rw [zC];simp only [ai,↓reduceIte,Int.reduceBEq,Int.reduceEq,e,h0,and_self,aC,d,i,eB m,w];exact o
theorem wF{need:List Bool}:∀(a:List Nd) (i:Nat) (to:List Int) (out:List Nd),(eF need i a to out).1.length=to.length
 | [],_,_,_=>rfl
 | x::a,i,to,out=>by
  rw [eF];split
  .rw [wF a];simp
  .exact wF a _ _ _
theorem KB{N:List Nd}{eh ed:Bool}{hold:List Int}{ds:List (List T)}(p:N.length<=90000)(hl:hold.length<=1000)(d:∀x∈N,x.ks.length<=1000)(e:∀(i:Nat) (x:Nd),N[i]? =some x->∀k∈x.ks,0<=k/\k < (i:Int))(l:∀k∈hold,0<=k/\k < (N.length:Int)):
  Or (.call 34) [AV.agg [AV.t (T.ab 3 ed ds),o0,o1]] [ad.rows N.isEmpty 5 1 1 N.length (rows N),ad.sl false 1 eh (enc hold)]=some [T.ab 3 ed ds,LN (nS N hold).1,LO (nS N hold).2]:=by
 unfold nS;dsimp only;have g:(eT (List.replicate N.length false) hold).length=N.length:=by rw [tw,Oo]
 have b:(back N (eT (List.replicate N.length false) hold) N.length).length=N.length:=by rw [yv,g]
 have f:=λL=>IN (L:=L) (ee:=N.isEmpty) (eh:=eh) (ed:=ed) (n:=N.length) (hold:=hold) (ds:=ds) (to:=(eF (back N (eT (List.replicate N.length false) hold) N.length) 0 N (List.replicate N.length 0) []).1) (out:=(eF (back N (eT (List.replicate N.length false) hold) N.length) 0 N (List.replicate N.length 0) []).2) hl (λk hm=>by rw [wF,Oo];exact l k hm);have h:=IL (eh:=eh) (ee:=N.isEmpty) (ed:=ed) (hold:=hold) (ds:=ds) p d e b N 0 (List.replicate N.length 0) (λ_=>⟨0,true,[],0,0,s0⟩) rfl (Oj _) (by simp) f;rw [HA] at h;have j:Or kN [AV.ref (Id.c 2) 0,AV.ref (Id.c 3) 0,o4,I (-1)] [ad.rows N.isEmpty 5 1 1 N.length (rows N),ad.sl false 1 eh (enc hold),ad.box [AV.t (T.ab 3 ed ds),o0,o1],cC,ad.sl false 1 false (dA (back N (eT (List.replicate N.length false) hold) N.length))]=some [T.ab 3 ed ds,LN (eF (back N (eT (List.replicate N.length false) hold) N.length) 0 N (List.replicate N.length 0) []).2,LO (hold.map λk=>(eF (back N (eT (List.replicate N.length false) hold) N.length) 0 N (List.replicate N.length 0) []).1.getD k.toNat 0)]:=by
  have o:¬(-1:Int)>=0:=by omega
  have hm:kC (N.length:Int) (N.length:Int)=some ():=by unfold kC;rw [if_pos ⟨by omega,by omega,by unfold kA;omega⟩]
  have a:List.replicate ((N.length:Int)).toNat [ti 0]=enc (List.replicate N.length 0):=by simp [enc]
  refine ah ?_;rw [vr];simp only [ai,↓reduceIte,Int.reduceBEq,Int.reduceEq,o,kk,b,hm,a,aO];simp only [MF,GR,CF] at h;exact h
 have q:=IK (eh:=eh) (hold:=hold) (ed:=ed) (ds:=ds) (show N.length<=100000 by omega) d e N.length (eT (List.replicate N.length false) hold) (M2 _) g j;have m:=IQ (eh:=eh) (ed:=ed) (ds:=ds) hl hold 0 (List.replicate N.length false) rfl (by simp) (by omega) l q;have hm:kC (N.length:Int) (N.length:Int)=some ():=by unfold kC;rw [if_pos ⟨by omega,by omega,by unfold kA;omega⟩]
 have a:List.replicate ((N.length:Int)).toNat [tb false]=dA (List.replicate N.length false):=by simp [dA]
 refine ah ?_;rw [Fv];simp only [ai,↓reduceIte,Int.reduceBEq,Int.reduceEq,aO,hm,a,aC];exact m
open Go Go.Aev Go.IntKind
theorem oq(x:ByteArray):x.data.toList.length=x.size:=by rw [M1];rfl
def lh(s p:ByteArray):Bool:=decide ((s.size:Int)>=(p.size:Int)) && decide (s.extract 0 p.size=p)
def pL(s p:ByteArray):Bool:=lh s p && (match s.data.toList[p.size]? with
 | some u=>decide ((u.toNat:Int)>=48) && decide ((u.toNat:Int)<=57)
 | none=>false)
theorem Kf(s p:ByteArray):Or (.call 103) [AV.t (T.str s),AV.t (T.str p)] []=some [tb (lh s p)]:=by
 unfold lh;refine ah ?_;rw [E7];by_cases h:(s.size:Int)>=(p.size:Int)
 .have a:fD 0 (p.size:Int) (s.size:Int)=some ():=by unfold fD;rw [if_pos ⟨by omega,by omega,by omega⟩]
  simp only [ai,↓reduceIte,Int.reduceBEq,Int.reduceEq,h,a,decide_true,Nf,pM]
 .simp only [bm,ai,↓reduceIte,Int.reduceBEq,Int.reduceEq,h,decide_false]
def iK(s p:ByteArray):ByteArray:=if lh s p then s.extract p.size s.size else s
theorem KQ(s p:ByteArray):Or (.call 58) [AV.t (T.str s),AV.t (T.str p)] []=some [T.str (iK s p),tb (lh s p)]:=by
 have k:=Kf s p;have c:Or (.call 90) [AV.t (T.str s),AV.t (T.str p)] []=some [T.str (iK s p),tb (lh s p)]:=by
  unfold iK;refine ah ?_;rw [GY];cases a:lh s p with
  | false=>rw [a] at k;simp only [ai,↓reduceIte,Int.reduceBEq,Int.reduceEq,k,MA];rfl
  | true=>
   rw [a] at k;have hs:(p.size:Int)<=(s.size:Int):=by unfold lh at a;simp only [MB,decide_eq_true_eq] at a;exact a.1
   have b:fD (p.size:Int) (s.size:Int) (s.size:Int)=some ():=by unfold fD;rw [if_pos ⟨by omega,by omega,by omega⟩]
   simp only [ai,↓reduceIte,Int.reduceBEq,Int.reduceEq,k,Mz,b,Nf]
 refine ah ?_;rw [FW];simp only [ai,↓reduceIte,Int.reduceBEq,Int.reduceEq,c]
theorem KP(nm p:ByteArray)(ea:Bool)(ar:List (List T))(so:Int):Or (.call 57) [AV.agg [AV.t (T.str nm),AV.t (T.ab 1 ea ar),I so],AV.t (T.ptr [T.str p])] []=some [tb (pL nm p)]:=by
 have k:=KQ nm p;unfold pL;refine ah ?_;rw [FV];cases c:lh nm p with
 | false=>rw [c] at k;simp only [bm,ai,↓reduceIte,Int.reduceBEq,Int.reduceEq,k]
 | true=>
  have e:iK nm p=nm.extract p.size nm.size:=by unfold iK;rw [c];rfl
  have el:(iK nm p).data.toList=nm.data.toList.drop p.size:=by rw [e];exact Go.Lib.extract_to_end nm p.size
  have es:(iK nm p).size=nm.size - p.size:=by have:=congrArg List.length el;rw [NH,oq,oq] at this;exact this
  rw [c] at k;have g:(iK nm p).data.toList[0]? =nm.data.toList[p.size]?:=by rw [el,OB,OA]
  cases b:nm.data.toList[p.size]? with
  | none=>
   have f:iK nm p=ByteArray.mk #[]:=by
    have:(iK nm p).data.toList= []:=by rw [el];have:=List.getElem?_eq_none_iff.1 b;exact Oi this
    cases h:iK nm p with
    | mk d=>rw [h] at this;simp only at this;rw [Array.toList_eq_nil_iff.1 this]
   simp only [bm,ai,↓reduceIte,Int.reduceBEq,Int.reduceEq,k,pM,f,decide_true,Mz]
  | some u=>
   have j:p.size < nm.size:=by have:=(My.1 b).1;rw [oq] at this;exact this
   have f:¬iK nm p=ByteArray.mk #[]:=λh=>by have:=congrArg ByteArray.size h;rw [es] at this;have l:(ByteArray.mk #[]).size=0:=rfl;omega
   have i:(0:Int)<=0/\(0:Int) < ((iK nm p).size:Int):=by rw [es];omega
   rw [b] at g;simp only [ai,↓reduceIte,Int.reduceBEq,Int.reduceEq,k,pM,f,decide_false,MA,i,and_self,g];by_cases a:(u.toNat:Int)>=48
   .simp only [ai,↓reduceIte,Int.reduceBEq,Int.reduceEq,a,decide_true]
   .simp only [bm,ai,↓reduceIte,Int.reduceBEq,Int.reduceEq,a,decide_false]
def lN(ds:List Dc)(p:ByteArray):Bool:=ds.any λd=>pL d.nm p
theorem BS{e:Bool}{ds:List Dc}{p:ByteArray}(hl:ds.length<=100):∀(r:List Dc) (i:Nat),ds.drop i=r->
  ∃z:Int,Or fX [AV.t (T.ab 3 e (aI ds)),AV.fn 57 [] [AV.t (T.ptr [T.str p])],I (ds.length:Int),I (i:Int)] []=some [ti z]/\decide (z>=0)=r.any λd=>pL d.nm p:=by
 intro r;induction r with
 | nil=>
  intro i g;have a:¬(i:Int) < (ds.length:Int):=by have:=bh g;omega
  refine⟨-1,ah ?_,by simp⟩;rw [vR];simp only [ai,↓reduceIte,Int.reduceBEq,Int.reduceEq,a]
 | cons d r h=>
  intro i g;obtain⟨c,m,f⟩:=bp g;have a:(i:Int) < (ds.length:Int):=by omega
  have h0: 0<=(i:Int):=by omega
  have k:=KP d.nm p d.ea (enc d.ar) d.so;cases b:pL d.nm p with
  | true=>rw [b] at k;refine⟨(i:Int),ah ?_,by simp [b]⟩;rw [vR];simp only [ai,↓reduceIte,Int.reduceBEq,Int.reduceEq,a,h0,and_self,bZ,dK c,k]
  | false=>rw [b] at k;obtain⟨z,j,l⟩:=h (i+1) f;refine⟨z,ah ?_,by rw [l];simp [b]⟩;rw [vR];simp only [ai,↓reduceIte,Int.reduceBEq,Int.reduceEq,a,h0,and_self,bZ,dK c,k,next i (by omega)];exact j
def nK(ds:List Dc):Nat->ByteArray->ByteArray
 | 0,p=>p
 | k+1,p=>if lN ds p then nK ds k (p++us) else p
theorem xR{ds:List Dc}{p:ByteArray}(hs:∀d∈ds,d.nm.size<=12)(h:lN ds p=true):p.size < 12:=by
 unfold lN at h;obtain⟨d,a,h⟩:=Oe.1 h;unfold pL at h;simp only [MB] at h;split at h
 .rename_i u b;have:=(My.1 b).1;have c:=hs d a;have e:=oq d.nm;omega
 .cases h.2
theorem Iz{ed en eh:Bool}{ds:List Dc}{ns:List (List T)}{hs:List (List T)}(hl:ds.length<=100)(c:∀d∈ds,d.nm.size<=12):∀(k:Nat) (p:ByteArray),12<=p.size+k->p.size<=12->
  Or rO [r0,r1] [ad.box [AV.t (T.ab 3 ed (aI ds)),AV.t (T.ab 5 en ns),AV.t (T.ab 1 eh hs)],ad.box [AV.t (T.str p)]]=some [T.str (nK ds k p)]:=by
 intro k;induction k with
 | zero=>
  intro p l m;obtain⟨z,g,i⟩:=BS (e:=ed) (p:=p) hl ds 0 rfl;have b:Or (.call 89) [AV.t (T.ab 3 ed (aI ds)),AV.fn 57 [] [AV.t (T.ptr [T.str p])]] []=some [ti z]:=by refine ah ?_;rw [Al];simp only [bZ];exact g
  have nt:lN ds p=false:=by
   cases h:lN ds p with
   | false=>rfl
   | true=>have:=xR c h;omega
  have a:Or (.call 55) [AV.t (T.ab 3 ed (aI ds)),AV.fn 57 [] [AV.t (T.ptr [T.str p])]] []=some [tb false]:=by rw [<-nt];refine ah ?_;rw [zI];simp only [ai,↓reduceIte,Int.reduceBEq,Int.reduceEq,b,i,lN]
  rw [nK];refine ah ?_;rw [vh];simp only [ai,↓reduceIte,Int.reduceBEq,Int.reduceEq,a]
 | succ k o=>
  intro p l m;obtain⟨z,g,i⟩:=BS (e:=ed) (p:=p) hl ds 0 rfl;have b:Or (.call 89) [AV.t (T.ab 3 ed (aI ds)),AV.fn 57 [] [AV.t (T.ptr [T.str p])]] []=some [ti z]:=by refine ah ?_;rw [Al];simp only [bZ];exact g
  have a:Or (.call 55) [AV.t (T.ab 3 ed (aI ds)),AV.fn 57 [] [AV.t (T.ptr [T.str p])]] []=some [tb (lN ds p)]:=by refine ah ?_;rw [zI];simp only [ai,↓reduceIte,Int.reduceBEq,Int.reduceEq,b,i,lN]
  rw [nK];cases f:lN ds p with
  | false=>rw [f] at a;refine ah ?_;rw [vh];simp only [ai,↓reduceIte,Int.reduceBEq,Int.reduceEq,a];rfl
  | true=>
   rw [f] at a;have:=xR c f;have n:=o (p++us) (by rw [MX,gx];omega) (by rw [MX,gx];omega);have j:p.size+1<=4294967296:=by omega
   refine ah ?_;rw [vh];simp only [ai,↓reduceIte,Int.reduceBEq,Int.reduceEq,a,j];exact n
def fG(ds:List Dc):ByteArray:=nK ds 11 us
theorem Cg{ds:List Dc}(a:∀d∈ds,d.nm.size<=12):∀(k:Nat) (p:ByteArray),p.size<=12->(nK ds k p).size<=12
 | 0,p,h=>h
 | k+1,p,h=>by
  rw [nK];split
  .rename_i b;have:=xR a b;exact Cg a k _ (by rw [MX,gx];omega)
  .exact h
theorem Kn{ed en eh:Bool}{ds:List Dc}{ns:List (List T)}{hs:List (List T)}(hl:ds.length<=100)(a:∀d∈ds,d.nm.size<=12):
  Or (.call 30) [AV.agg [AV.t (T.ab 3 ed (aI ds)),AV.t (T.ab 5 en ns),AV.t (T.ab 1 eh hs)]] []=some [T.str (fG ds)]:=by
 have:=Iz (ed:=ed) (en:=en) (eh:=eh) (ns:=ns) (hs:=hs) hl a 11 us (by rw [gx];omega) (by rw [gx];omega);refine ah ?_;rw [Fm];exact this
theorem Js{e:Bool}{l:List Int}(hl:l.length<=1000):∀(r:List Int) (i:Nat),l.drop i=r->
  ∃z:Int,Or dS [ab e l,AV.fn 21 [] [],I (l.length:Int),I (i:Int)] []=some [ti z]/\decide (z>=0)=r.any aH:=by
 intro r;induction r with
 | nil=>
  intro i g;have a:¬(i:Int) < (l.length:Int):=by have:=bh g;omega
  refine⟨-1,ah ?_,by simp⟩;rw [vK];simp only [ai,↓reduceIte,Int.reduceBEq,Int.reduceEq,a]
 | cons d r h=>
  intro i g;obtain⟨c,n,f⟩:=bp g;have a:(i:Int) < (l.length:Int):=by omega
  have h0: 0<=(i:Int):=by omega
  have k:=fI d;cases b:aH d with
  | true=>rw [b] at k;refine⟨(i:Int),ah ?_,by simp [b]⟩;rw [vK];simp only [ai,↓reduceIte,Int.reduceBEq,Int.reduceEq,a,h0,and_self,aC,bD c,k]
  | false=>rw [b] at k;obtain⟨z,j,m⟩:=h (i+1) f;refine⟨z,ah ?_,by rw [m];simp [b]⟩;rw [vK];simp only [ai,↓reduceIte,Int.reduceBEq,Int.reduceEq,a,h0,and_self,aC,bD c,k,next i (by omega)];exact j
theorem Jw{e:Bool}{ds:List Dc}(hl:ds.length<=1000):∀(r:List Dc) (i:Nat),ds.drop i=r->
  ∃z:Int,Or fX [AV.t (T.ab 3 e (aI ds)),AV.fn 56 [] [],I (ds.length:Int),I (i:Int)] []=some [ti z]/\decide (z>=0)=r.any λd=>aH d.so:=by
 intro r;induction r with
 | nil=>
  intro i g;have a:¬(i:Int) < (ds.length:Int):=by have:=bh g;omega
  refine⟨-1,ah ?_,by simp⟩;rw [vQ];simp only [ai,↓reduceIte,Int.reduceBEq,Int.reduceEq,a]
 | cons d r j=>
  intro i g;obtain⟨c,n,h⟩:=bp g;have a:(i:Int) < (ds.length:Int):=by omega
  have h0: 0<=(i:Int):=by omega
  have f:=fI d.so;have k:Or (.call 56) [AV.agg [AV.t (T.str d.nm),AV.t (T.ab 1 d.ea (enc d.ar)),I d.so]] []=some [tb (aH d.so)]:=by refine ah ?_;rw [FU];simp only [ai,↓reduceIte,Int.reduceBEq,Int.reduceEq,f]
  cases b:aH d.so with
  | true=>rw [b] at k;refine⟨(i:Int),ah ?_,by simp [b]⟩;rw [vQ];simp only [ai,↓reduceIte,Int.reduceBEq,Int.reduceEq,a,h0,and_self,bZ,dK c,k]
  | false=>rw [b] at k;obtain⟨z,l,m⟩:=j (i+1) h;refine⟨z,ah ?_,by rw [m];simp [b]⟩;rw [vQ];simp only [ai,↓reduceIte,Int.reduceBEq,Int.reduceEq,a,h0,and_self,bZ,dK c,k,next i (by omega)];exact l
def uB(ds:List Dc)(ss:List Int):Bool:=ss.any aH || ds.any λd=>aH d.so
theorem KK{e:Bool}{l:List Int}(hl:l.length<=1000):Or (.call 48) [ab e l,AV.fn 21 [] []] []=some [tb (l.any aH)]:=by
 obtain⟨z,b,c⟩:=Js (e:=e) hl l 0 rfl;have a:Or (.call 86) [ab e l,AV.fn 21 [] []] []=some [ti z]:=by refine ah ?_;rw [GL];simp only [aC];exact b
 refine ah ?_;rw [FG];simp only [ai,↓reduceIte,Int.reduceBEq,Int.reduceEq,a,c]
theorem Kl{ed en eh es:Bool}{ds:List Dc}{ns:List (List T)}{hs:List (List T)}{ss:List Int}(hl:ds.length<=100)(c:ss.length<=1000):
  Or (.call 28) [AV.agg [AV.t (T.ab 3 ed (aI ds)),AV.t (T.ab 5 en ns),AV.t (T.ab 1 eh hs)],ab es ss] []=some [tb (uB ds ss)]:=by
 have a:=KK (e:=es) c;obtain⟨z,h,i⟩:=Jw (e:=ed) (ds:=ds) (by omega) ds 0 rfl;have g:Or (.call 89) [AV.t (T.ab 3 ed (aI ds)),AV.fn 56 [] []] []=some [ti z]:=by refine ah ?_;rw [GV];simp only [bZ];exact h
 have f:Or (.call 55) [AV.t (T.ab 3 ed (aI ds)),AV.fn 56 [] []] []=some [tb (ds.any λd=>aH d.so)]:=by refine ah ?_;rw [FR];simp only [ai,↓reduceIte,Int.reduceBEq,Int.reduceEq,g,i]
 unfold uB;refine ah ?_;rw [Fl];cases b:ss.any aH with
 | true=>rw [b] at a;simp only [bm,ai,↓reduceIte,Int.reduceBEq,Int.reduceEq,a,Mz];rfl
 | false=>rw [b] at a;simp only [ai,↓reduceIte,Int.reduceBEq,Int.reduceEq,a,MA,f];rfl
def iY(p:ByteArray)(k:Nat)(d:Dc):Nat->Nat->List Dc
 | _,0=> []
 | b,n+1=>⟨p++it (k:Int)++us++it (b:Int),d.ea,d.ar,1⟩::iY p k d (b+1) n
def mz(p:ByteArray)(k:Nat):Nat->Nat->Bool->Bool
 | _,0,ok=>ok
 | b,n+1,ok=>mz p k (b+1) n (ok && decide (((p++it (k:Int)++us++it (b:Int)).size:Int)<=12))
def dO(p:ByteArray):Nat->List Dc->List Dc
 | _,[]=> []
 | k,d::r=>(if aH d.so then iY p k d 0 (d.so - 10).toNat else [d])++dO p (k+1) r
def jh(p:ByteArray):Nat->List Dc->Bool->Bool
 | _,[],ok=>ok
 | k,d::r,ok=>jh p (k+1) r (if aH d.so then mz p k 0 (d.so - 10).toNat ok else ok)
theorem uQ(p:ByteArray)(k:Nat)(d:Dc):∀(n b:Nat),(iY p k d b n).length=n
 | 0,_=>rfl
 | n+1,b=>by rw [iY,ME,uQ p k d n]
theorem ir(e:Bool)(l:List Int)(a:e=true->l= [])(hl:l.length<=1000000):∃x,Or (.call 25) [ab e l] []=some [x]/\x.an 1=some (e,enc l):=by
 refine⟨_,C0 e l a hl, ?_⟩;cases e with
 | true=>rw [a rfl];rfl
 | false=>rfl
theorem fY(v x:Bool):(bif v then x else false)= (v && x):=by cases v <;> rfl
def nk(d:Dc):List T:= [T.str d.nm,T.ab 1 d.ea (enc d.ar),ti d.so]
theorem BO{p:ByteArray}{ed:Bool}{ds:List Dc}{k w:Nat}{d:Dc}(y:p.size<=100)(v:k<=100)(h:d.ea=true->d.ar= [])(u:d.ar.length<=1000)(z:w<=100){r:List T}:∀(n b:Nat) (a:List Dc) (ok:Bool),b+n=w->a.length+n<=100000->
  Or jT [AV.t (T.str p),o0,B (mz p k b n ok),AV.t (T.ab 3 ed (aI ds)),I (ds.length:Int),I ((k+1:Nat):Int)] [ad.sl false 3 false ((a++iY p k d b n).map nk)]=some r->
  Or lV [AV.t (T.str p),o0,B ok,I (k:Int),r1,AV.t (T.ab 3 ed (aI ds)),I (ds.length:Int),I (k:Int),I (w:Int),I (b:Int)] [ad.sl false 3 false (a.map nk),ad.box [AV.t (T.str d.nm),ab d.ea d.ar,I d.so]]=some r:=by
 have f:dI (k:Int):=⟨by omega,by omega⟩;have A:=gQ f;intro n;induction n with
 | zero=>
  intro b a ok o hl c;have g:¬(b:Int) < (w:Int):=by omega
  rw [iY,MU,mz] at c;refine ah ?_;rw [zk];simp only [ai,↓reduceIte,Int.reduceBEq,Int.reduceEq,g,next k (by omega)];exact c
 | succ n s=>
  intro b a ok o hl c;have g:(b:Int) < (w:Int):=by omega
  have e:dI (b:Int):=⟨by omega,by omega⟩;have C:=gQ e;have l:p.size+ (it (k:Int)).size<=4294967296:=by omega
  have m:(p++it (k:Int)).size+1<=4294967296:=by rw [MX];omega
  have c3:(p++it (k:Int)++us).size+ (it (b:Int)).size<=4294967296:=by simp only [MX,gx];omega
  obtain⟨x,j,q⟩:=ir d.ea d.ar h (by omega);rw [iY,mz] at c;have i:=s (b+1) (a++ [⟨p++it (k:Int)++us++it (b:Int),d.ea,d.ar,1⟩]) _ (by omega) (by simp;omega) (by simpa only [MY,M5] using c);rw [OE] at i;refine ah ?_;rw [zk];simp only [ai,↓reduceIte,Int.reduceBEq,Int.reduceEq,g,gW f,gW e,l,m,c3,j,q,NM,MC,cm (show a.length+1<=1000000 by omega),next b (by omega),fY];exact i
theorem BN{p:ByteArray}{ed:Bool}{ds:List Dc}(s:p.size<=100)(hl:ds.length<=100)(f:∀d∈ds,d.ea=true->d.ar= [])(h:∀d∈ds,d.ar.length<=1000):∀(r:List Dc) (k:Nat) (a:List Dc) (ok:Bool),ds.drop k=r->k<=ds.length->a.length<=100 * k->
  Or jT [AV.t (T.str p),o0,B ok,AV.t (T.ab 3 ed (aI ds)),I (ds.length:Int),I (k:Int)] [ad.sl false 3 false (a.map nk)]=some [T.ab 3 false ((a++dO p k r).map nk),tb (jh p k r ok && decide ((((a++dO p k r).length:Nat):Int)<=30))]:=by
 intro r;induction r with
 | nil=>
  intro k a ok g q o;have e:¬(k:Int) < (ds.length:Int):=by have:=bh g;omega
  rw [dO,jh,MU];refine ah ?_;rw [vo];simp only [ai,↓reduceIte,Int.reduceBEq,Int.reduceEq,e,NM,fY]
 | cons d r m=>
  intro k a ok g q o;obtain⟨i,A,l⟩:=bp g;have hm:=MD i;have e:(k:Int) < (ds.length:Int):=by omega
  have h0: 0<=(k:Int):=by omega
  have b:=fI d.so;obtain⟨x,n,u⟩:=ir d.ea d.ar (f d hm) (by have:=h d hm;omega);rw [dO,jh];cases j:aH d.so with
  | false=>rw [j] at b;have c:=m (k+1) (a++ [d]) ok l (by omega) (by simp;omega);simp only [MY,M5] at c;rw [OE] at c;simp only [MZ,↓reduceIte,M5];refine ah ?_;rw [vo];simp only [ai,↓reduceIte,Int.reduceBEq,Int.reduceEq,e,h0,and_self,bZ,dK i,b,MA,n,u,NM,MC,cm (show a.length+1<=1000000 by omega),next k (by omega)];exact c
  | true=>
   rw [j] at b;have z:=fP j;have c:=m (k+1) (a++iY p k d 0 (d.so - 10).toNat) (mz p k 0 (d.so - 10).toNat ok) l (by omega) (by simp [uQ];omega);have v:=BO (p:=p) (ed:=ed) (ds:=ds) (k:=k) (w:=(d.so - 10).toNat) (d:=d) s (by omega) (f d hm) (h d hm) (by omega) (d.so - 10).toNat 0 a ok (by omega) (by omega) c;have y:i64.wrap (d.so - 10)= ((d.so - 10).toNat:Int):=by rw [wr (by omega)];omega
   simp only [↓reduceIte];rw [<-MY];refine ah ?_;rw [vo];simp only [ai,↓reduceIte,Int.reduceBEq,Int.reduceEq,e,h0,and_self,bZ,dK i,b,Mz,y];exact v
theorem IA{p:ByteArray}{ed:Bool}{ds:List Dc}(j:p.size<=100)(hl:ds.length<=100)(b:∀d∈ds,d.ea=true->d.ar= [])(c:∀d∈ds,d.ar.length<=1000):∃x,Or jT [AV.t (T.str p),AV.t (T.af true),B true,AV.t (T.ab 3 ed (aI ds)),I (ds.length:Int),I 0] []=some [x,tb (jh p 0 ds true && decide ((((dO p 0 ds).length:Nat):Int)<=30))]/\x.an 3=some ((dO p 0 ds).isEmpty,aI (dO p 0 ds)):=by
 cases a:ds with
 | nil=>refine⟨T.af true,ah ?_,rfl⟩;rw [vl];simp only [ai,↓reduceIte,Int.reduceBEq,Int.reduceEq,MS,M4,Na,decide_false];rfl
 | cons d r=>
  have hm:d∈ds:=by rw [a];exact Mv
  have q:(0:Int) < (((d::r).length:Nat):Int):=by simp
  have h0:(0:Int)<=0:=by omega
  have o:(aI (d::r))[(0:Int).toNat]? =some [T.str d.nm,T.ab 1 d.ea (enc d.ar),ti d.so]:=rfl;have e:=fI d.so;have y:i64.wrap (0+1)= ((1:Nat):Int):=by decide
  obtain⟨x,i,u⟩:=ir d.ea d.ar (b d hm) (by have:=c d hm;omega);rw [dO,jh];cases l:aH d.so with
  | false=>rw [l] at e;have f:=BN (p:=p) (ed:=ed) (ds:=ds) j hl b c r 1 [d] true (by rw [a];rfl) (by rw [a];simp) (by simp);rw [a] at f;simp only [MZ,↓reduceIte,M5];refine⟨T.ab 3 false (([d] ++dO p (0+1) r).map nk),ah ?_,rfl⟩;rw [vl];simp only [ai,↓reduceIte,Int.reduceBEq,Int.reduceEq,q,h0,and_self,bZ,o,e,MA,i,u,y];exact f
  | true=>
   rw [l] at e;have F:=fP l;obtain⟨n,C⟩:∃n,(d.so - 10).toNat=n+1:=⟨(d.so - 10).toNat - 1,by omega⟩;have h:dI ((0:Nat):Int):=⟨by omega,by omega⟩;have m:=gQ h;have z:p.size+ (it 0).size<=4294967296:=by have:(it 0).size<=21:=m;omega
   have A:(p++it 0).size+1<=4294967296:=by have:(it 0).size<=21:=m;rw [MX];omega
   have c3:(p++it 0++us).size+ (it 0).size<=4294967296:=by have:(it 0).size<=21:=m;simp only [MX,gx];omega
   have v:Or (.call 59) [I 0] []=some [T.str (it 0)]:=gW h;have f:=BN (p:=p) (ed:=ed) (ds:=ds) j hl b c r 1 (iY p 0 d 0 (n+1)) (mz p 0 0 (n+1) true) (by rw [a];rfl) (by rw [a];simp) (by rw [uQ];omega);have D:=BO (p:=p) (ed:=ed) (ds:=ds) (k:=0) (w:=n+1) (d:=d) j (by omega) (b d hm) (c d hm) (by omega) n 1 [⟨p++it 0++us++it 0,d.ea,d.ar,1⟩] (true && decide (((p++it 0++us++it 0).size:Int)<=12)) (by omega) (by simp;omega) f;have E:i64.wrap (d.so - 10)= ((n+1:Nat):Int):=by rw [wr (by omega)];omega
   have s:(0:Int) < ((n+1:Nat):Int):=by omega
   have g:Or lV [AV.t (T.str p),AV.t (T.af true),B true,I 0,r0,AV.t (T.ab 3 ed (aI ds)),I (ds.length:Int),I 0,I ((n+1:Nat):Int),I 0] [ad.box [AV.t (T.str d.nm),ab d.ea d.ar,I d.so]]=some [T.ab 3 false ((iY p 0 d 0 (n+1)++dO p 1 r).map nk),tb (jh p 1 r (mz p 0 0 (n+1) true) && decide ((((iY p 0 d 0 (n+1)++dO p 1 r).length:Nat):Int)<=30))]:=by refine ah ?_;rw [Fp];simp only [ai,↓reduceIte,Int.reduceBEq,Int.reduceEq,s,v,z,A,c3,i,u,y,fY];exact D
   rw [a] at g;simp only [↓reduceIte,C];refine⟨T.ab 3 false ((iY p 0 d 0 (n+1)++dO p (0+1) r).map nk),ah ?_,rfl⟩;rw [vl];simp only [ai,↓reduceIte,Int.reduceBEq,Int.reduceEq,q,h0,and_self,bZ,o,e,Mz,E];exact g
theorem Ko{p:ByteArray}{ed en eh:Bool}{ds:List Dc}{ns hs:List (List T)}(f:p.size<=100)(hl:ds.length<=100)(a:∀d∈ds,d.ea=true->d.ar= [])(b:∀d∈ds,d.ar.length<=1000):
  ∃x,Or (.call 31) [AV.agg [AV.t (T.ab 3 ed (aI ds)),AV.t (T.ab 5 en ns),AV.t (T.ab 1 eh hs)],AV.t (T.str p)] []=some [x,tb (jh p 0 ds true && decide ((((dO p 0 ds).length:Nat):Int)<=30))]/\x.an 3=some ((dO p 0 ds).isEmpty,aI (dO p 0 ds)):=by
 obtain⟨x,c,e⟩:=IA (p:=p) (ed:=ed) f hl a b;refine⟨x,ah ?_,e⟩;rw [Fo];simp only [bZ];exact c
open Go Go.Aev Go.IntKind
def jo(c:Cx)(t:Tr)(M:Mk)(x:Nd)(s:Int):Tr×Mk:=
 if aH s then(⟨t.bits++ [(fv c t M x s).1],t.to++ [0]⟩,(fv c t M x s).2)
 else(⟨t.bits++ [[]],t.to++ [(gr t M x).1]⟩,(gr t M x).2)
def nC(c:Cx):List Nd->List Int->Tr->Mk->Tr×Mk
 | x::r,s::q,t,M=>if 800 < (jo c t M x s).2.N.length then jo c t M x s else nC c r q (jo c t M x s).1 (jo c t M x s).2
 | _,_,t,M=>(t,M)
def tz:List T:= [T.af true,T.af true,T.af true,ti 10,ti 0]
def pS(c:Cx)(q:Tr×Mk):List Nd×List Int:=nS q.2.N (c.hs.map (bA q.1))
def kE(c:Cx)(dl:List Dc)(ok:Bool)(q:Tr×Mk):List T:=
 if ok=false\/800 < q.2.N.length then tz
 else if 200 < (pS c q).1.length then tz
 else [T.ab 3 dl.isEmpty (aI dl),T.ab 5 (pS c q).1.isEmpty (aV (pS c q).1),T.ab 1 (pS c q).2.isEmpty (enc (pS c q).2),ti 0,ti 0]
theorem Au(l:List (List Int))(b:List Int):bd l++ [[LO b]]=bd (l++ [b]):=by simp [bd]
theorem HU(w:List Int)(h: 1<=w.length):T.ab 1 w.isEmpty (enc w)=LO w:=by cases w with
 | nil=>simp at h
 | cons=>rfl
theorem xJ{a:Type}(l:List a)(x:a):(l++ [x]).isEmpty=false:=by cases l <;> rfl
theorem de.word{c:Cx}{t:Tr}{M f:Mk}{i n:Nat}{s:Int}{w:List Int}(h:de c t M i)(hs:c.ss[i]? =some s)(r:aH s=true)(u:Up M f n)(hl:(w.length:Int)=s - 10)(o:∀y∈w,In f y):de c ⟨t.bits++ [w],t.to++ [0]⟩ f (i+1):=by
 have m:=h.up u;refine⟨u.ok,by simp [h.bl],by simp [h.tl],λk s' q a d=> ?_,λk s' q a d=> ?_⟩
 .by_cases e:k=i
  .subst e;rw [hs] at a;simp only [Mt] at a;subst a;exact⟨w,by rw [Nt (by rw [h.bl];exact M2 _),h.bl,Pf];rfl,hl,o⟩
  .obtain⟨b,g,j,l⟩:=m.w k s' (by omega) a d;exact⟨b,by rw [Nb (by rw [h.bl];omega)];exact g,j,l⟩
 .by_cases e:k=i
  .subst e;rw [hs] at a;simp only [Mt] at a;subst a;rw [r] at d;cases d
  .obtain⟨g,v,j,l⟩:=m.p k s' (by omega) a d;exact⟨by rw [Nb (by rw [h.bl];omega)];exact g,v,by rw [Nb (by rw [h.tl];omega)];exact j,l⟩
theorem de.plain{c:Cx}{t:Tr}{M f:Mk}{i n:Nat}{s v:Int}(h:de c t M i)(hs:c.ss[i]? =some s)(r:aH s=false)(u:Up M f n)(o:In f v):de c ⟨t.bits++ [[]],t.to++ [v]⟩ f (i+1):=by
 have m:=h.up u;refine⟨u.ok,by simp [h.bl],by simp [h.tl],λk s' q a d=> ?_,λk s' q a d=> ?_⟩
 .by_cases e:k=i
  .subst e;rw [hs] at a;simp only [Mt] at a;subst a;rw [r] at d;cases d
  .obtain⟨b,g,j,l⟩:=m.w k s' (by omega) a d;exact⟨b,by rw [Nb (by rw [h.bl];omega)];exact g,j,l⟩
 .by_cases e:k=i
  .subst e;exact⟨by rw [Nt (by rw [h.bl];exact M2 _),h.bl,Pf];rfl,v,by rw [Nt (by rw [h.tl];exact M2 _),h.tl,Pf];rfl,o⟩
  .obtain⟨g,x,j,l⟩:=m.p k s' (by omega) a d;exact⟨by rw [Nb (by rw [h.bl];omega)];exact g,x,by rw [Nb (by rw [h.tl];omega)];exact j,l⟩
structure pV (c:Cx):Prop where
 sl:c.ss.length=c.ns.length
 nl:c.ns.length<=200
 dl:c.ds.length<=30
 hl:c.hs.length<=200
 ds:∀d∈c.ds,d.nm.size<=12
 nd:∀(i:Nat) (x:Nd) (s:Int),c.ns[i]? =some x->c.ss[i]? =some s->r6 c i x s
 ho:∀k∈c.hs,0<=k/\c.ss[k.toNat]? =some 1
theorem LS{c:Cx}(ok:pV c){t:Tr}{M:Mk}{i:Nat}{x:Nd}{s:Int}(d:c.ns[i]? =some x)(hs:c.ss[i]? =some s)(a:de c t M i)(g:c.p.size<=100)(f:M.N.length<=40000):
  de c (jo c t M x s).1 (jo c t M x s).2 (i+1)/\Up M (jo c t M x s).2 1000:=by
 unfold jo;cases b:aH s with
 | true=>obtain⟨_,u,e,hl⟩:=DQ d hs b (ok.nd i x s d hs) a (by have:=ok.dl;omega) g f;exact⟨a.word hs b u hl e,u⟩
 | false=>obtain⟨_,u,e⟩:=Cf d b (ok.nd i x s d hs) a f;exact⟨a.plain hs b u e,u⟩
abbrev EA(c:Cx):ad:=ad.box [AV.t (T.ab 3 c.ed (aI c.ds)),AV.t (T.ab 5 c.en (aV c.ns)),AV.t (T.ab 1 c.eh (enc c.hs))]
abbrev mL:ad:=ad.box [I 0,I 0]
abbrev DA(c:Cx):ad:=ad.box [AV.ref (Id.c 4) 0,AV.t (T.ab 3 c.ed (aI c.ds)),AV.t (T.ab 5 c.en (aV c.ns)),AV.t (T.ab 1 c.eh (enc c.hs)),AV.t (T.str c.p),AV.t (T.ab 1 c.es (enc c.ss)),AV.own (Id.c 5),AV.own (Id.c 6)]
theorem Jy{c:Cx}{t:Tr}{M:Mk}{dl:List Dc}{n:Nat}(ok:pV c)(J:n=c.ns.length)(q:de c t M n)(H:M.N.length<=800):∀(h:List Int) (j:Nat) (a:List Int),c.hs.drop j=h->j<=c.hs.length->a.length=j->a++h.map (bA t)=c.hs.map (bA t)->
  Or oc [AV.ref (Id.c 0) 0,AV.ref (Id.c 1) 0,AV.ref (Id.c 2) 0,AV.ref (Id.c 3) 0,ab c.eh c.hs,I (c.hs.length:Int),I (j:Int)] [cC,mL,DA c,ad.box [AV.t (T.ab 3 dl.isEmpty (aI dl)),AV.own (Id.c 7),AV.own (Id.c 8)],ad.box [AV.own (Id.c 7),AV.own (Id.c 9)],ad.sl false 1 t.bits.isEmpty (bd t.bits),ad.sl false 1 t.to.isEmpty (enc t.to),ad.rows M.N.isEmpty 5 1 1 M.N.length (rows M.N),ad.sl false 1 a.isEmpty (enc a),ad.mp false [Ck.s] (Ck.i .i64) (bV M.K)]=some (kE c dl true (t,M)):=by
 have m:∀k∈c.hs,0<=k/\t.to[k.toNat]? =some (bA t k)/\In M (bA t k):=λk l=>by obtain⟨d,b⟩:=ok.ho k l;have F:k.toNat < c.ss.length:=(My.1 b).1;have u:KW c n k 1:=⟨d,by have:=ok.sl;omega,b⟩;exact⟨d,(u.plain q te).2⟩
 intro h;induction h with
 | nil=>
  intro j a g B e f;have d:¬(j:Int) < (c.hs.length:Int):=by have:=bh g;omega
  rw [ND,MU] at f;have w:=KB (N:=M.N) (eh:=a.isEmpty) (ed:=dl.isEmpty) (hold:=a) (ds:=aI dl) (by omega) (by have:=ok.hl;omega) (λx C=>by obtain⟨i,A⟩:=Oy C;exact q.ok.kl i x A) q.ok.ks (λk l=>by
   rw [f] at l;obtain⟨E,hm,rfl⟩:=M7.1 l;exact(m E hm).2.2)
  unfold kE pS;rw [<-f];refine ah ?_;rw [Ao];simp only [ai,↓reduceIte,Int.reduceBEq,Int.reduceEq,d,w,HT,cx];have o:¬(true=false\/800 < M.N.length):=by simp;omega
  rw [if_neg o];by_cases b: 200 < (nS M.N a).1.length
  .have p:((aV (nS M.N a).1).length:Int) > 200:=by rw [dm];omega
   rw [if_pos b];simp only [ai,↓reduceIte,Int.reduceBEq,Int.reduceEq,p,decide_true];rfl
  .have p:¬((aV (nS M.N a).1).length:Int) > 200:=by rw [dm];omega
   rw [if_neg b];simp only [ai,↓reduceIte,Int.reduceBEq,Int.reduceEq,p,decide_false]
 | cons k h D=>
  intro j a g B e f;obtain⟨r,G,z⟩:=bp g;have d:(j:Int) < (c.hs.length:Int):=by omega
  have h0: 0<=(j:Int):=by omega
  obtain⟨L,y,_⟩:=m k (MD r);have b: 0<=k/\k < (t.to.length:Int):=by have:=(My.1 y).1;omega
  have v:=D (j+1) (a++ [bA t k]) z (by omega) (by simp [e]) (by rw [<-f];simp);rw [xJ] at v;refine ah ?_;rw [Ao];simp only [ai,↓reduceIte,Int.reduceBEq,Int.reduceEq,d,h0,and_self,aC,bD r,b,eB y,MC,cm (show a.length+1<=1000000 by have:=ok.hl;omega),next j (by have:=ok.hl;omega),dP];exact v
abbrev M9(c:Cx)(t:Tr)(M:Mk):List ad:= [EA c,cC,mL,DA c,ad.box [AV.own (Id.c 7),AV.own (Id.c 8)],ad.sl false 1 t.bits.isEmpty (bd t.bits),ad.sl false 1 t.to.isEmpty (enc t.to),ad.rows M.N.isEmpty 5 1 1 M.N.length (rows M.N),ad.mp false [Ck.s] (Ck.i .i64) (bV M.K)]
theorem Jz{c:Cx}{dl:List Dc}{okb:Bool}(ok:pV c)(F:c.p.size<=100):∀(rn:List Nd) (rs:List Int) (i:Nat) (t:Tr) (M:Mk),c.ns.drop i=rn->c.ss.drop i=rs->i<=c.ns.length->de c t M i->M.N.length<=800->
  Or pX [r0,r1,AV.ref (Id.c 2) 0,ab c.es c.ss,AV.t (T.ab 3 dl.isEmpty (aI dl)),B okb,AV.ref (Id.c 3) 0,I (c.ns.length:Int),I (i:Int)] (M9 c t M)=some (kE c dl okb (nC c rn rs t M)):=by
 intro rn;induction rn with
 | nil=>
  intro rs i t M o w K f A;have k:¬(i:Int) < (c.ns.length:Int):=by have:=bh o;omega
  have D:i=c.ns.length:=by have:=bh o;omega
  have a:¬(M.N.length:Int) > 800:=by omega
  have y:nC c [] rs t M= (t,M):=by simp [nC]
  rw [y];cases okb with
  | false=>refine ah ?_;rw [oI];simp only [ai,↓reduceIte,Int.reduceBEq,Int.reduceEq,k,MA];rfl
  | true=>have m:=Jy (dl:=dl) ok D f A c.hs 0 [] rfl (Oj _) rfl rfl;refine ah ?_;rw [oI];simp only [ai,↓reduceIte,Int.reduceBEq,Int.reduceEq,k,Mz,aO,a,decide_false,aC];exact m
 | cons x rn L=>
  intro rs i t M o w K f A;obtain⟨n,P,H⟩:=bp o;cases rs with
  | nil=>exact absurd (bh w) (by have:=ok.sl;omega)
  | cons s rs=>
   obtain⟨g,Q,J⟩:=bp w;have k:(i:Int) < (c.ns.length:Int):=by omega
   have q: 0<=(i:Int)/\(i:Int) < (c.ss.length:Int):=by omega
   have e:=fI s;obtain⟨fS,iO⟩:=LS ok n g f F (by omega);have d:=λa=>L rs (i+1) _ _ H J (by omega) fS a;have G:=next i (by have:=ok.nl;omega);rw [nC];cases l:aH s with
   | true=>
    rw [l] at e;obtain⟨r,u,C,hl⟩:=DQ n g l (ok.nd i x s n g) f (by have:=ok.dl;omega) F (by omega);have O:=fP l;have es:jo c t M x s= (⟨t.bits++ [(fv c t M x s).1],t.to++ [0]⟩,(fv c t M x s).2):=by unfold jo;rw [l];rfl
    rw [es] at d fS⊢;dsimp only at d fS⊢;have h:bg 24 (t.bits.length+1)=some ():=cm (by have:=f.bl;have:=ok.nl;omega);have j:bg 8 (t.to.length+1)=some ():=cm (by have:=f.tl;have:=ok.nl;omega);have E:=HU (fv c t M x s).1 (by omega);have y: [T.int i64 0]= [ti 0]:=rfl;by_cases a: 800 < (fv c t M x s).2.N.length
    .have b:((fv c t M x s).2.N.length:Int) > 800:=by omega
     rw [if_pos a];have er:kE c dl okb (⟨t.bits++ [(fv c t M x s).1],t.to++ [0]⟩,(fv c t M x s).2)=tz:=by unfold kE;rw [if_pos (.inr a)]
     rw [er];refine ah ?_;rw [oI];simp (maxSteps:=1000000) only [ai,↓reduceIte,Int.reduceBEq,Int.reduceEq,k,q,and_self,aC,bD g,e,r,aT,aS,Mw,aR,aO,cJ,cK,cx,l7,MC,h,j,b,decide_true];cases okb <;> rfl
    .have b:¬((fv c t M x s).2.N.length:Int) > 800:=by omega
     rw [if_neg a];have m:=d (by omega);simp only [M9,xJ] at m;refine ah ?_;rw [oI];simp (maxSteps:=1000000) only [ai,↓reduceIte,Int.reduceBEq,Int.reduceEq,k,q,and_self,aC,bD g,e,r,aT,aS,Mw,aR,aO,cJ,cK,cx,l7,MC,h,j,b,decide_false,E,Au,dP,G];exact m
   | false=>
    rw [l] at e;obtain⟨v,u,C⟩:=Cf n l (ok.nd i x s n g) f (by omega);have es:jo c t M x s= (⟨t.bits++ [[]],t.to++ [(gr t M x).1]⟩,(gr t M x).2):=by unfold jo;rw [l];rfl
    rw [es] at d fS⊢;dsimp only at d fS⊢;have h:bg 24 (t.bits.length+1)=some ():=cm (by have:=f.bl;have:=ok.nl;omega);have j:bg 8 (t.to.length+1)=some ():=cm (by have:=f.tl;have:=ok.nl;omega);by_cases a: 800 < (gr t M x).2.N.length
    .have b:((gr t M x).2.N.length:Int) > 800:=by omega
     rw [if_pos a];have er:kE c dl okb (⟨t.bits++ [[]],t.to++ [(gr t M x).1]⟩,(gr t M x).2)=tz:=by unfold kE;rw [if_pos (.inr a)]
     rw [er];refine ah ?_;rw [oI];simp (maxSteps:=1000000) only [ai,↓reduceIte,Int.reduceBEq,Int.reduceEq,k,q,and_self,aC,bD g,e,v,aT,aS,Mw,aR,aO,cJ,cK,cx,l7,MC,h,j,b,decide_true];cases okb <;> rfl
    .have b:¬((gr t M x).2.N.length:Int) > 800:=by omega
     rw [if_neg a];have m:=d (by omega);simp only [M9,xJ] at m;have z:bd t.bits++ [[T.af true]]=bd (t.bits++ [[]]):=Au t.bits [];refine ah ?_;rw [oI];simp (maxSteps:=1000000) only [ai,↓reduceIte,Int.reduceBEq,Int.reduceEq,k,q,and_self,aC,bD g,e,v,aT,aS,Mw,aR,aO,cJ,cK,cx,l7,MC,h,j,b,decide_false,z,dP,G];exact m
open Go Go.Aev Go.IntKind
structure As where
 ed:Bool
 ds:List Dc
 en:Bool
 ns:List Nd
 eh:Bool
 hs:List Int
abbrev AG(a:As):AV:=AV.agg [AV.t (T.ab 3 a.ed (aI a.ds)),AV.t (T.ab 5 a.en (aV a.ns)),AV.t (T.ab 1 a.eh (enc a.hs))]
abbrev fh(a:As):ad:=ad.box [AV.t (T.ab 3 a.ed (aI a.ds)),AV.t (T.ab 5 a.en (aV a.ns)),AV.t (T.ab 1 a.eh (enc a.hs))]
structure pU (a:As):Prop where
 d:∀d∈a.ds,d.ea=true->d.ar= []
 n:∀x∈a.ns,x.ek=true->x.ks= []
 h:a.eh=true->a.hs= []
theorem Hb(l:List Dc)(d:Dc):aI l++ [[T.str d.nm,T.ab 1 d.ea (enc d.ar),T.int .i64 d.so]]=aI (l++ [d]):=by simp [aI]
theorem Av(l:List Nd)(x:Nd):aV l++ [[T.int .i64 x.op,T.ab 1 x.ek (enc x.ks),T.int .i64 x.n,T.int .i64 x.d,T.str x.nm]]=aV (l++ [x]):=by simp [aV]
theorem Ix{e eh:Bool}{ns:List Nd}{hs:List Int}{dl:List (List T)}(hl:ns.length<=1000)(o:∀x∈ns,x.ek=true->x.ks= [])(h:∀x∈ns,x.ks.length<=1000):∀(r:List Nd) (i:Nat) (a:List Nd),ns.drop i=r->i<=ns.length->a.length=i->
  Or gA [r0,r1,AV.t (T.ab 5 e (aV ns)),I (ns.length:Int),I (i:Int)] [cC,ad.box [o2,o3,o4],ad.sl false 3 false dl,ad.sl false 5 false (aV a),ad.sl false 1 eh (enc hs)]=some [T.ab 3 false dl,T.ab 5 false (aV (a++r)),T.ab 1 eh (enc hs)]/\
  Or gA [r0,r1,AV.t (T.ab 5 e (aV ns)),I (ns.length:Int),I (i:Int)] [cC,ad.box [AV.t (T.af true),o2,o3],ad.sl false 5 false (aV a),ad.sl false 1 eh (enc hs)]=some [T.af true,T.ab 5 false (aV (a++r)),T.ab 1 eh (enc hs)]:=by
 intro r;induction r with
 | nil=>
  intro i a g n c;have b:¬(i:Int) < (ns.length:Int):=by have:=bh g;omega
  rw [MU];refine⟨ah ?_,ah ?_⟩
  .rw [zj];simp only [ai,↓reduceIte,Int.reduceBEq,Int.reduceEq,b]
  .rw [zi];simp only [ai,↓reduceIte,Int.reduceBEq,Int.reduceEq,b]
 | cons x r p=>
  intro i a g n c;obtain⟨f,q,m⟩:=bp g;have hm:=MD f;have b:(i:Int) < (ns.length:Int):=by omega
  have h0: 0<=(i:Int):=by omega
  obtain⟨y,d,j⟩:=ir x.ek x.ks (o x hm) (by have:=h x hm;omega);obtain⟨k,l⟩:=p (i+1) (a++ [x]) m (by omega) (by simp [c]);simp only [MY,M5] at k l;refine⟨ah ?_,ah ?_⟩
  .rw [zj];simp only [ai,↓reduceIte,Int.reduceBEq,Int.reduceEq,b,h0,and_self,dm,eA f,d,j,MC,cm (show a.length+1<=1000000 by omega),next i (by omega),Av];exact k
  .rw [zi];simp only [ai,↓reduceIte,Int.reduceBEq,Int.reduceEq,b,h0,and_self,dm,eA f,d,j,MC,cm (show a.length+1<=1000000 by omega),next i (by omega),Av];exact l
theorem Iy{e eh:Bool}{ns:List Nd}{hs:List Int}{dl:List (List T)}(hl:ns.length<=1000)(h:∀x∈ns,x.ek=true->x.ks= [])(b:∀x∈ns,x.ks.length<=1000):
  (∃z,Or gA [r0,r1,AV.t (T.ab 5 e (aV ns)),I (ns.length:Int),I 0] [cC,ad.box [o2,AV.t (T.af true),o3],ad.sl false 3 false dl,ad.sl false 1 eh (enc hs)]=some [T.ab 3 false dl,z,T.ab 1 eh (enc hs)]/\z.an 5=some (ns.isEmpty,aV ns))/\
  (∃z,Or gA [r0,r1,AV.t (T.ab 5 e (aV ns)),I (ns.length:Int),I 0] [cC,ad.box [AV.t (T.af true),AV.t (T.af true),o2],ad.sl false 1 eh (enc hs)]=some [T.af true,z,T.ab 1 eh (enc hs)]/\z.an 5=some (ns.isEmpty,aV ns)):=by
 cases a:ns with
 | nil=>
  refine⟨⟨T.af true,ah ?_,rfl⟩,⟨T.af true,ah ?_,rfl⟩⟩
  .rw [zh];simp only [ai,↓reduceIte,Int.reduceBEq,Int.reduceEq,MS,M4,Na,decide_false]
  .rw [zg];simp only [ai,↓reduceIte,Int.reduceBEq,Int.reduceEq,MS,M4,Na,decide_false]
 | cons x r=>
  have hm:x∈ns:=by rw [a];exact Mv
  have g:(0:Int) < (((x::r).length:Nat):Int):=by simp
  have h0:(0:Int)<=0:=by omega
  have f:(aV (x::r))[(0:Int).toNat]? =some [ti x.op,T.ab 1 x.ek (enc x.ks),ti x.n,ti x.d,T.str x.nm]:=rfl;have j:i64.wrap (0+1)= ((1:Nat):Int):=by decide
  obtain⟨y,c,i⟩:=ir x.ek x.ks (h x hm) (by have:=b x hm;omega);obtain⟨k,l⟩:=Ix (e:=e) (eh:=eh) (ns:=ns) (hs:=hs) (dl:=dl) hl h b r 1 [x] (by rw [a];rfl) (by rw [a];simp) rfl;rw [a] at k l;refine⟨⟨T.ab 5 false (aV ([x] ++r)),ah ?_,rfl⟩,⟨T.ab 5 false (aV ([x] ++r)),ah ?_,rfl⟩⟩
  .rw [zh];simp only [ai,↓reduceIte,Int.reduceBEq,Int.reduceEq,g,h0,and_self,dm,f,c,i,j];exact k
  .rw [zg];simp only [ai,↓reduceIte,Int.reduceBEq,Int.reduceEq,g,h0,and_self,dm,f,c,i,j];exact l
theorem Iw{a:As}{e eh:Bool}{hs:List Int}(hl:a.ds.length<=1000)(s:∀d∈a.ds,d.ea=true->d.ar= [])(l:∀d∈a.ds,d.ar.length<=1000){z:T}
  (m:Or gA [r0,r1,AV.t (T.ab 5 a.en (aV a.ns)),I (a.ns.length:Int),I 0] [cC,ad.box [o2,AV.t (T.af true),o3],ad.sl false 3 false (aI a.ds),ad.sl false 1 eh (enc hs)]=some [T.ab 3 false (aI a.ds),z,T.ab 1 eh (enc hs)]):∀(r:List Dc) (i:Nat) (b:List Dc),a.ds.drop i=r->i<=a.ds.length->b.length=i->b++r=a.ds->
  Or lU [r0,r1,AV.ref (Id.c 2) 0,AV.t (T.ab 3 e (aI a.ds)),I (a.ds.length:Int),I (i:Int)] [fh a,cC,ad.box [o3,AV.t (T.af true),o4],ad.sl false 3 false (aI b),ad.sl false 1 eh (enc hs)]=some [T.ab 3 false (aI a.ds),z,T.ab 1 eh (enc hs)]:=by
 intro r;induction r with
 | nil=>
  intro i b g p h f;have j:¬(i:Int) < (a.ds.length:Int):=by have:=bh g;omega
  rw [MU] at f;rw [<-f] at m;refine ah ?_;rw [zf,<-f];rw [<-f] at j;simp only [ai,↓reduceIte,Int.reduceBEq,Int.reduceEq,j,dm];exact m
 | cons d r v=>
  intro i b g p h f;obtain⟨k,w,o⟩:=bp g;have hm:=MD k;have j:(i:Int) < (a.ds.length:Int):=by omega
  have h0: 0<=(i:Int):=by omega
  obtain⟨y,n,u⟩:=ir d.ea d.ar (s d hm) (by have:=l d hm;omega);have q:=v (i+1) (b++ [d]) o (by omega) (by simp [h]) (by rw [<-f];simp);refine ah ?_;rw [zf];simp only [ai,↓reduceIte,Int.reduceBEq,Int.reduceEq,j,h0,and_self,bZ,dK k,n,u,MC,cm (show b.length+1<=1000000 by omega),next i (by omega),Hb];exact q
theorem Km{a:As}(wf:pU a)(l:a.ds.length<=1000)(o:a.ns.length<=1000)(G:a.hs.length<=1000)(f:∀d∈a.ds,d.ar.length<=1000)(m:∀x∈a.ns,x.ks.length<=1000):
  ∃x y z,Or (.call 29) [AG a] []=some [x,y,z]/\x.an 3=some (a.ds.isEmpty,aI a.ds)/\y.an 5=some (a.ns.isEmpty,aV a.ns)/\z.an 1=some (a.eh,enc a.hs):=by
 obtain⟨v,g,p⟩:=ir a.eh a.hs wf.h (by omega);obtain⟨⟨q,B,C⟩,⟨s,D,E⟩⟩:=Iy (e:=a.en) (eh:=a.eh) (ns:=a.ns) (hs:=a.hs) (dl:=aI a.ds) o wf.n m;cases b:a.ds with
 | nil=>
  have i:Or lU [r0,r1,AV.ref (Id.c 2) 0,AV.t (T.ab 3 a.ed (aI a.ds)),I (a.ds.length:Int),I 0] [fh a,cC,ad.box [AV.t (T.af true),AV.t (T.af true),o3],ad.sl false 1 a.eh (enc a.hs)]=some [T.af true,s,T.ab 1 a.eh (enc a.hs)]:=by refine ah ?_;rw [ze,b];simp only [ai,↓reduceIte,Int.reduceBEq,Int.reduceEq,MS,M4,Na,decide_false,dm];exact D
  refine⟨T.af true,s,T.ab 1 a.eh (enc a.hs),ah ?_,rfl,E,by rw [bU]⟩;rw [zd];simp only [ai,↓reduceIte,Int.reduceBEq,Int.reduceEq,g,p,bZ];exact i
 | cons d r=>
  have hm:d∈a.ds:=by rw [b];exact Mv
  have j:=Iw (a:=a) (e:=a.ed) (eh:=a.eh) (hs:=a.hs) l wf.d f B r 1 [d] (by rw [b];rfl) (by rw [b];simp) rfl (by rw [b];rfl);have w:(0:Int) < (((d::r).length:Nat):Int):=by simp
  have h0:(0:Int)<=0:=by omega
  have u:(aI (d::r))[(0:Int).toNat]? =some [T.str d.nm,T.ab 1 d.ea (enc d.ar),ti d.so]:=rfl;have F:i64.wrap (0+1)= ((1:Nat):Int):=by decide
  obtain⟨y,k,A⟩:=ir d.ea d.ar (wf.d d hm) (by have:=f d hm;omega);have i:Or lU [r0,r1,AV.ref (Id.c 2) 0,AV.t (T.ab 3 a.ed (aI a.ds)),I (a.ds.length:Int),I 0] [fh a,cC,ad.box [AV.t (T.af true),AV.t (T.af true),o3],ad.sl false 1 a.eh (enc a.hs)]=some [T.ab 3 false (aI a.ds),q,T.ab 1 a.eh (enc a.hs)]:=by refine ah ?_;rw [ze,b];rw [b] at j;simp only [ai,↓reduceIte,Int.reduceBEq,Int.reduceEq,w,h0,and_self,bZ,u,k,A,F];rw [<-b] at j⊢;exact j
  refine⟨T.ab 3 false (aI a.ds),q,T.ab 1 a.eh (enc a.hs),ah ?_,by rw [b];rfl,C,by rw [bU]⟩;rw [zd];simp only [ai,↓reduceIte,Int.reduceBEq,Int.reduceEq,g,p,bZ];exact i
def kS(a:As)(es:Bool)(ss:List Int):Cx:=⟨a.ed,a.ds,a.en,a.ns,a.eh,a.hs,fG a.ds,es,ss⟩
def sE(a:As)(es:Bool)(ss:List Int):List T:=
 if uB a.ds ss then kE (kS a es ss) (dO (fG a.ds) 0 a.ds) (jh (fG a.ds) 0 a.ds true && decide ((((dO (fG a.ds) 0 a.ds).length:Nat):Int)<=30)) (nC (kS a es ss) a.ns ss ⟨[],[]⟩ ⟨[],[]⟩)
 else [T.ab 3 a.ds.isEmpty (aI a.ds),T.ab 5 a.ns.isEmpty (aV a.ns),T.ab 1 a.eh (enc a.hs),ti 0,ti 0]
theorem s9{a:As}{es:Bool}{ss:List Int}(wf:pU a)(ok:pV (kS a es ss))(e:∀d∈a.ds,d.ar.length<=1000){x:T}(g:Or (.call 15) [AG a] []=some [x,ti 0,ti 0])(o:x.an 1=some (es,enc ss)):
  Or (.call 9) [AG a] []=some (sE a es ss):=by
 have D:a.ds.length<=30:=ok.dl;have F:a.ns.length<=200:=ok.nl;have E:a.hs.length<=200:=ok.hl;have m:ss.length=a.ns.length:=ok.sl;have f:∀d∈a.ds,d.nm.size<=12:=ok.ds;have b:=Kl (ed:=a.ed) (en:=a.en) (eh:=a.eh) (es:=es) (ds:=a.ds) (ns:=aV a.ns) (hs:=enc a.hs) (ss:=ss) (by omega) (by omega);unfold sE;cases n:uB a.ds ss with
 | false=>
  rw [n] at b;obtain⟨H,I,J,q,v,w,z⟩:=Km wf (by omega) (by omega) (by omega) e (λx hm=>by
   obtain⟨i,j⟩:=Oy hm;have l:i < ss.length:=by rw [m];exact(My.1 j).1
   have:=(ok.nd i x _ j (MJ l)).kl;omega)
  refine ah ?_;rw [e9];simp only [ai,↓reduceIte,Int.reduceBEq,Int.reduceEq,g,o,Mz,b,MA,q,v,w,z];rfl
 | true=>
  rw [n] at b;have r:=Kn (ed:=a.ed) (en:=a.en) (eh:=a.eh) (ns:=aV a.ns) (hs:=enc a.hs) (show a.ds.length<=100 by omega) f;have G:(fG a.ds).size<=12:=Cg f 11 us (by rw [gx];omega);obtain⟨y,u,C⟩:=Ko (p:=fG a.ds) (ed:=a.ed) (en:=a.en) (eh:=a.eh) (ds:=a.ds) (ns:=aV a.ns) (hs:=enc a.hs) (by omega) (by omega) wf.d e;have h0:de (kS a es ss) ⟨[],[]⟩ ⟨[],[]⟩ 0:=⟨⟨λi x h=>(by simp at h),λi x h=>(by simp at h),λp h=>(by cases h),λi x h=>(by simp at h),λi x h=>(by simp at h)⟩,rfl,rfl,λk s h=>by omega,λk s h=>by omega⟩;have hl:=Jz (dl:=dO (fG a.ds) 0 a.ds) (okb:=jh (fG a.ds) 0 a.ds true && decide ((((dO (fG a.ds) 0 a.ds).length:Nat):Int)<=30)) ok (show(fG a.ds).size<=100 by omega) a.ns ss 0 ⟨[],[]⟩ ⟨[],[]⟩ rfl rfl (Oj _) h0 (by simp);have A:Or uI [r0,r1,AV.ref (Id.c 2) 0,ab es ss,AV.t (T.ab 3 (dO (fG a.ds) 0 a.ds).isEmpty (aI (dO (fG a.ds) 0 a.ds))),B (jh (fG a.ds) 0 a.ds true && decide ((((dO (fG a.ds) 0 a.ds).length:Nat):Int)<=30)),AV.ref (Id.c 3) 0,AV.ref (Id.c 3) 0,AV.ref (Id.c 4) 0] (M9 (kS a es ss) ⟨[],[]⟩ ⟨[],[]⟩)=some (kE (kS a es ss) (dO (fG a.ds) 0 a.ds) (jh (fG a.ds) 0 a.ds true && decide ((((dO (fG a.ds) 0 a.ds).length:Nat):Int)<=30)) (nC (kS a es ss) a.ns ss ⟨[],[]⟩ ⟨[],[]⟩)):=by refine ah ?_;rw [G9];simp only [dm];exact hl
  simp only [↓reduceIte];refine ah ?_;rw [e9];simp only [ai,↓reduceIte,Int.reduceBEq,Int.reduceEq,g,o,Mz,b,r,u,C];exact A
end Go.Aev.Gen
