import Derived.Test.YtcjplcpngagalaaGreatDoorBlastFormQ10
import Derived.Lib.IndexBytes
set_option linter.all false
namespace Go.Aev.Gen
open Go Go.Aev Go.IntKind
def jR(k:Nat)(p:Nd×Bool):Row:=Row.mk k [ti p.1.op,T.ak,ti p.1.n,ti p.1.d,T.str p.1.nm] (cond p.2 none (some (p.1.ek,enc p.1.ks)))
def dV:Nat->List (Nd×Bool)->List Row
 | _,[]=> []
 | k,p::r=>jR k p::dV (k+1) r
theorem rN:∀(k:Nat) (l:List (Nd×Bool)),(dV k l).length=l.length
 | _,[]=>rfl
 | k,p::r=>by rw [dV,Nf,rN,Nf]
theorem DC:∀{k:Nat} {l:List (Nd×Bool)} {i:Nat} {p:Nd×Bool},l[i]? =some p->(dV k l)[i]? =some (jR (k+i) p)
 | _,[],_,_,h=>by simp at h
 | k,y::r,0,x,h=>by simp at h;subst h;rfl
 | k,y::r,i+1,x,h=>by rw [dV,Oy,DC (by simpa using h),show k+1+i=k+ (i+1) by omega]
theorem DB:∀{k:Nat} {l:List (Nd×Bool)} {i:Nat} {x:Nd},l[i]? =some (x,false)->cv (k+i) (dV k l)=some (x.ek,enc x.ks)
 | _,[],_,_,h=>by simp at h
 | k,y::r,0,x,h=>by simp at h;subst h;simp [dV,jR,cv]
 | k,y::r,i+1,x,h=>by have a:=DB (k:=k+1) (l:=r) (i:=i) (x:=x) (by simpa using h);rw [show k+1+i=k+ (i+1) by omega] at a;rw [dV,cv,if_neg (by simp [jR]),a]
theorem DE{ks:List Int}:∀{k:Nat} {l:List (Nd×Bool)} {i:Nat} {x:Nd} {g:Bool},l[i]? =some (x,g)->cR (k+i) (some (x.ek,enc ks)) (dV k l)=dV k (l.set i (⟨x.op,x.ek,ks,x.n,x.d,x.nm⟩,false))
 | _,[],_,_,_,h=>by simp at h
 | k,y::r,0,x,g,h=>by simp at h;subst h;simp [dV,jR,cR]
 | k,y::r,i+1,x,g,h=>by have a:=DE (ks:=ks) (k:=k+1) (l:=r) (i:=i) (x:=x) (g:=g) (by simpa using h);rw [show k+1+i=k+ (i+1) by omega] at a;rw [dV,cR,if_neg (by simp [jR]),a,Pe,dV]
theorem DD:∀{k:Nat} {l:List (Nd×Bool)} {i:Nat} {x:Nd} {g:Bool},l[i]? =some (x,g)->cR (k+i) none (dV k l)=dV k (l.set i (x,true))
 | _,[],_,_,_,h=>by simp at h
 | k,y::r,0,x,g,h=>by simp at h;subst h;simp [dV,jR,cR]
 | k,y::r,i+1,x,g,h=>by have a:=DD (k:=k+1) (l:=r) (i:=i) (x:=x) (g:=g) (by simpa using h);rw [show k+1+i=k+ (i+1) by omega] at a;rw [dV,cR,if_neg (by simp [jR]),a,Pe,dV]
theorem DA:∀(k:Nat) (l:List Nd),dV k (l.map λx=>(x,false))=fe k l
 | _,[]=>rfl
 | k,x::r=>by rw [NH,dV,DA (k+1) r];rfl
def dM(l:List Bool):List (List T):=l.map λb=> [tb b]
theorem kr(l:List Bool):(dM l).length=l.length:=by simp [dM]
theorem nK{l:List Bool}{i:Nat}{b:Bool}(h:l[i]? =some b):(dM l)[i]? =some [tb b]:=by simp [dM,h]
theorem Ei{l:List Bool}{i:Nat}(v:Bool)(h:i < l.length):fV i 0 [tb v] (dM l)=some (dM (l.set i v)):=by unfold fV;rw [nK (Nc h)];simp [cm,dM]
theorem uD{l:List Int}{i:Nat}(v:Int)(h:i < l.length):fV i 0 [ti v] (enc l)=some (enc (l.set i v)):=by unfold fV;rw [eO (Nc h)];simp [cm,enc]
def dG(need:List Bool):List Int->List Bool
 | []=>need
 | k::r=>dG (need.set k.toNat true) r
theorem pC:∀(ks:List Int) (need:List Bool),(dG need ks).length=need.length
 | [],_=>rfl
 | k::r,need=>by rw [dG,pC r,O6]
def back(N:List Nd)(need:List Bool):Nat->List Bool
 | 0=>need
 | i+1=>back N (if need.getD i false then dG need ((N.getD i ⟨0,true,[],0,0,s0⟩).ks) else need) i
theorem yX(N:List Nd):∀(i:Nat) (need:List Bool),(back N need i).length=need.length
 | 0,_=>rfl
 | i+1,need=>by rw [back,yX N i];split <;> simp [pC]
def dA(need:List Bool):Nat->List Nd->List Int->List Nd->List Int×List Nd
 | _,[],to,out=>(to,out)
 | i,x::r,to,out=>
  if need.getD i false then dA need (i+1) r (to.set i (out.length:Int)) (out++ [⟨x.op,x.ek,x.ks.map λk=>(to.set i (out.length:Int)).getD k.toNat 0,x.n,x.d,x.nm⟩])
  else dA need (i+1) r to out
def hJ(N:List Nd)(hold:List Int):List Nd×List Int:=
 let need:=back N (dG (List.replicate N.length false) hold) N.length;let q:=dA need 0 N (List.replicate N.length 0) []
 (q.2,hold.map λk=>q.1.getD k.toNat 0)
abbrev cH:ab:=ab.box [AV.t (T.af true),AV.t (T.af true),AV.t (T.af true)]
theorem Jh{N:List Nd}{eh:Bool}{hold:List Int}{ed:Bool}{ds:List (List T)}(hl:hold.length<=1000){r:List T}:∀(a:List Int) (j:Nat) (need:List Bool),hold.drop j=a->need.length=N.length->N.length<=100000->(∀k∈a,0<=k/\k < (N.length:Int))->
  Or kO [AV.ref (Id.c 2) 0,AV.ref (Id.c 3) 0,o4,I ((N.length:Int) - 1)] [ab.rows N.isEmpty 5 1 1 N.length (rows N),ab.sl false 1 eh (enc hold),ab.box [AV.t (T.ad 3 ed ds),o0,o1],cH,ab.sl false 1 false (dM (dG need a))]=some r->
  Or sd [AV.ref (Id.c 2) 0,AV.ref (Id.c 3) 0,o4,o1,I (hold.length:Int),I (j:Int)] [ab.rows N.isEmpty 5 1 1 N.length (rows N),ab.sl false 1 eh (enc hold),ab.box [AV.t (T.ad 3 ed ds),o0,o1],cH,ab.sl false 1 false (dM need)]=some r:=by
 intro a;induction a with
 | nil=>
  intro j need g f h e b;have d:¬(j:Int) < (hold.length:Int):=by have:=bx g;omega
  have w:i64.wrap ((N.length:Int) - 1)= (N.length:Int) - 1:=wr (by omega);rw [dG] at b;refine ah ?_;rw [z8];simp only [aj,↓reduceIte,Int.reduceBEq,Int.reduceEq,d,kr,f,w];exact b
 | cons k a u=>
  intro j need g f h e b;obtain⟨n,x,o⟩:=bz g;have d:(j:Int) < (hold.length:Int):=by omega
  have h0: 0<=(j:Int):=by omega
  have v:=e k M3;have p: 0<=k/\k < (need.length:Int):=by omega
  have m:=Ei (l:=need) (i:=k.toNat) true (by omega);rw [dG] at b;have s:=u (j+1) (need.set k.toNat true) o (by simp [f]) h (λy q=>e y (M4 _ q)) b;refine ah ?_;rw [z8];simp only [aj,↓reduceIte,Int.reduceBEq,Int.reduceEq,d,h0,and_self,aD,bC n,kr,p,m,next j (by omega)];exact s
theorem Jg{N:List Nd}{eh:Bool}{hold:List Int}{ed:Bool}{ds:List (List T)}{i:Nat}{x:Nd}(m:N[i]? =some x)(z:x.ks.length<=1000)(B:N.length<=100000){r:List T}:∀(a:List Int) (j:Nat) (need:List Bool),x.ks.drop j=a->need.length=N.length->(∀k∈a,0<=k/\k < (N.length:Int))->
  Or kO [AV.ref (Id.c 2) 0,AV.ref (Id.c 3) 0,o4,I ((i:Int) - 1)] [ab.rows N.isEmpty 5 1 1 N.length (rows N),ab.sl false 1 eh (enc hold),ab.box [AV.t (T.ad 3 ed ds),o0,o1],cH,ab.sl false 1 false (dM (dG need a))]=some r->
  Or sc [AV.ref (Id.c 2) 0,AV.ref (Id.c 3) 0,o4,I (i:Int),AV.row (Id.c 0) i,I (x.ks.length:Int),I (j:Int)] [ab.rows N.isEmpty 5 1 1 N.length (rows N),ab.sl false 1 eh (enc hold),ab.box [AV.t (T.ad 3 ed ds),o0,o1],cH,ab.sl false 1 false (dM need)]=some r:=by
 have C:i < N.length:=(M5.1 m).1;intro a;induction a with
 | nil=>
  intro j need g f e b;have d:¬(j:Int) < (x.ks.length:Int):=by have:=bx g;omega
  have w:i64.wrap ((i:Int) - 1)= (i:Int) - 1:=wr (by omega);rw [dG] at b;refine ah ?_;rw [zZ];simp only [aj,↓reduceIte,Int.reduceBEq,Int.reduceEq,d,w];exact b
 | cons k a u=>
  intro j need g f e b;obtain⟨n,A,o⟩:=bz g;have d:(j:Int) < (x.ks.length:Int):=by omega
  have h0: 0<=(j:Int):=by omega
  have v:=e k M3;have p: 0<=k/\k < (need.length:Int):=by omega
  have h:=Ei (l:=need) (i:=k.toNat) true (by omega);rw [dG] at b;have s:=u (j+1) (need.set k.toNat true) o (by simp [f]) (λy q=>e y (M4 _ q)) b;refine ah ?_;rw [zZ];simp only [aj,↓reduceIte,Int.reduceBEq,Int.reduceEq,d,h0,and_self,xS m,aD,bC n,kr,p,h,next j (by omega)];exact s
theorem Jc{N:List Nd}{eh:Bool}{hold:List Int}{ed:Bool}{ds:List (List T)}(s:N.length<=100000)(l:∀x∈N,x.ks.length<=1000)(m:∀(i:Nat) (x:Nd),N[i]? =some x->∀k∈x.ks,0<=k/\k < (i:Int)){r:List T}:∀(i:Nat) (need:List Bool),i<=N.length->need.length=N.length->
  Or kO [AV.ref (Id.c 2) 0,AV.ref (Id.c 3) 0,o4,I (-1)] [ab.rows N.isEmpty 5 1 1 N.length (rows N),ab.sl false 1 eh (enc hold),ab.box [AV.t (T.ad 3 ed ds),o0,o1],cH,ab.sl false 1 false (dM (back N need i))]=some r->
  Or kO [AV.ref (Id.c 2) 0,AV.ref (Id.c 3) 0,o4,I ((i:Int) - 1)] [ab.rows N.isEmpty 5 1 1 N.length (rows N),ab.sl false 1 eh (enc hold),ab.box [AV.t (T.ad 3 ed ds),o0,o1],cH,ab.sl false 1 false (dM need)]=some r:=by
 intro i;induction i with
 | zero=>intro need _ e a;exact a
 | succ i o=>
  intro need y e a;have g:i < N.length:=by omega
  have p:(((i+1:Nat):Int) - 1)= (i:Int):=by omega
  have j:(i:Int)>=0:=by omega
  have h0: 0<=(i:Int)/\(i:Int) < (need.length:Int):=by omega
  have q: 0<=(i:Int)/\(i:Int) < (N.length:Int):=by omega
  have b:=Nc g;have d:need[i]? =some (need.getD i false):=by rw [Na,Nc (by omega)];rfl
  have w:i64.wrap ((i:Int) - 1)= (i:Int) - 1:=wr (by omega);rw [p];rw [back] at a;cases f:need.getD i false with
  | false=>rw [f] at a d;have h:=o need (by omega) e (by simpa using a);refine ah ?_;rw [vK];simp only [aj,↓reduceIte,Int.reduceBEq,Int.reduceEq,j,h0,and_self,kr,NM,nK d,w];exact h
  | true=>
   rw [f] at a d;have n:N.getD i ⟨0,true,[],0,0,s0⟩=N[i]:=by rw [Na,b];rfl
   rw [n] at a;have h:=o (dG need N[i].ks) (by omega) (by rw [pC,e]) (by simpa using a);have v:=Jg (eh:=eh) (hold:=hold) (ed:=ed) (ds:=ds) b (l _ (Pb g)) s N[i].ks 0 need rfl e (λk u=>by have:=m i _ b k u;omega) h;refine ah ?_;rw [vK];simp only [aj,↓reduceIte,Int.reduceBEq,Int.reduceEq,j,h0,q,and_self,kr,NM,nK d,aQ,xT b,Dz,xS b,aD];exact v
abbrev GR(L:List (Nd×Bool))(e:Bool)(n:Nat):ab:=ab.rows e 5 1 1 n (dV 0 L)
theorem tp{L:List (Nd×Bool)}{i:Nat}{p:Nd×Bool}(h:L[i]? =some p):(dV 0 L)[i]? =some (jR i p):=by have:=DC (k:=0) h;rwa [NF] at this
theorem pj{L:List (Nd×Bool)}{i:Nat}{x:Nd}(h:L[i]? =some (x,false)):cv i (dV 0 L)=some (x.ek,enc x.ks):=by have:=DB (k:=0) h;rwa [NF] at this
theorem Bx{ks:List Int}{L:List (Nd×Bool)}{i:Nat}{x:Nd}{g:Bool}(h:L[i]? =some (x,g)):cR i (some (x.ek,enc ks)) (dV 0 L)=dV 0 (L.set i (⟨x.op,x.ek,ks,x.n,x.d,x.nm⟩,false)):=by have:=DE (ks:=ks) (k:=0) h;rwa [NF] at this
theorem Bw{L:List (Nd×Bool)}{i:Nat}{x:Nd}{g:Bool}(h:L[i]? =some (x,g)):cR i none (dV 0 L)=dV 0 (L.set i (x,true)):=by have:=DD (k:=0) h;rwa [NF] at this
theorem Dx(k:Nat)(p:Nd×Bool):(jR k p).n=k:=rfl
theorem uk(k:Nat)(p:Nd×Bool):(jR k p).cs= [ti p.1.op,T.ak,ti p.1.n,ti p.1.d,T.str p.1.nm]:=rfl
abbrev dc(ed:Bool)(ds:List (List T))(x y:AV):ab:=ab.box [AV.t (T.ad 3 ed ds),x,y]
def gp(x:Nd):List T:= [ti x.op,T.ad 1 x.ek (enc x.ks),ti x.n,ti x.d,T.str x.nm]
theorem Cv{eh:Bool}{hold:List Int}{ed ee:Bool}{ds:List (List T)}{need:List Bool}{to:List Int}{i n:Nat}{x:Nd}(E:n<=100000)(C:x.ks.length<=1000)(y:∀k∈x.ks,0<=k/\k < (to.length:Int)){outB:AV}{more:List ab}{r:List T}
  (step:∀(L:List (Nd×Bool)) (j:Nat) (k v:Int) (a:List Int),(j:Int) < (x.ks.length:Int)->L[i]? =some (⟨x.op,x.ek,a,x.n,x.d,x.nm⟩,false)->a[j]? =some k->(0<=k/\k < (to.length:Int))->to[k.toNat]? =some v->j < a.length->a.length=x.ks.length->
   Or fW [AV.ref (Id.c 2) 0,AV.ref (Id.c 3) 0,o4,o5,AV.ref (Id.c 6) 0,AV.ref (Id.c 7) 0,o0,I (n:Int),I (i:Int),AV.row (Id.c 0) i,I (x.ks.length:Int),I ((j+1:Nat):Int)] ([GR (L.set i (⟨x.op,x.ek,a.set j v,x.n,x.d,x.nm⟩,false)) ee n,ab.sl false 1 eh (enc hold),dc ed ds o0 o1,cH,ab.sl false 1 false (dM need),ab.sl false 1 false (enc to),dc ed ds outB (AV.t (T.af true)),ab.box [I x.op,AV.row (Id.c 0) i,I x.n,I x.d,AV.t (T.str x.nm)]] ++more)=some r->
   Or fW [AV.ref (Id.c 2) 0,AV.ref (Id.c 3) 0,o4,o5,AV.ref (Id.c 6) 0,AV.ref (Id.c 7) 0,o0,I (n:Int),I (i:Int),AV.row (Id.c 0) i,I (x.ks.length:Int),I (j:Int)] ([GR L ee n,ab.sl false 1 eh (enc hold),dc ed ds o0 o1,cH,ab.sl false 1 false (dM need),ab.sl false 1 false (enc to),dc ed ds outB (AV.t (T.af true)),ab.box [I x.op,AV.row (Id.c 0) i,I x.n,I x.d,AV.t (T.str x.nm)]] ++more)=some r):
  ∀(b:List Int) (j:Nat) (L:List (Nd×Bool)) (a:List Int),x.ks.drop j=b->j<=x.ks.length->i < L.length->a.length=j->L[i]? =some (⟨x.op,x.ek,a++b,x.n,x.d,x.nm⟩,false)->
   Or fW [AV.ref (Id.c 2) 0,AV.ref (Id.c 3) 0,o4,o5,AV.ref (Id.c 6) 0,AV.ref (Id.c 7) 0,o0,I (n:Int),I (i:Int),AV.row (Id.c 0) i,I (x.ks.length:Int),I (x.ks.length:Int)] ([GR (L.set i (⟨x.op,x.ek,a++b.map (λk=>to.getD k.toNat 0),x.n,x.d,x.nm⟩,false)) ee n,ab.sl false 1 eh (enc hold),dc ed ds o0 o1,cH,ab.sl false 1 false (dM need),ab.sl false 1 false (enc to),dc ed ds outB (AV.t (T.af true)),ab.box [I x.op,AV.row (Id.c 0) i,I x.n,I x.d,AV.t (T.str x.nm)]] ++more)=some r->
   Or fW [AV.ref (Id.c 2) 0,AV.ref (Id.c 3) 0,o4,o5,AV.ref (Id.c 6) 0,AV.ref (Id.c 7) 0,o0,I (n:Int),I (i:Int),AV.row (Id.c 0) i,I (x.ks.length:Int),I (j:Int)] ([GR L ee n,ab.sl false 1 eh (enc hold),dc ed ds o0 o1,cH,ab.sl false 1 false (dM need),ab.sl false 1 false (enc to),dc ed ds outB (AV.t (T.af true)),ab.box [I x.op,AV.row (Id.c 0) i,I x.n,I x.d,AV.t (T.str x.nm)]] ++more)=some r:=by
 intro b;induction b with
 | nil=>
  intro j L a g w f e l h;have q:j=x.ks.length:=by have:=bx g;omega
  have m:L.set i (⟨x.op,x.ek,a++ ([]:List Int).map (λk=>to.getD k.toNat 0),x.n,x.d,x.nm⟩,false)=L:=by have u:=(M5.1 l).2;rw [Oe,<-u,List.set_getElem_self]
  rw [m] at h;rw [q];exact h
 | cons k b B=>
  intro j L a g w f e l h;obtain⟨s,D,o⟩:=bz g;have p:=y k (Nh s);have A:to[k.toNat]? =some (to.getD k.toNat 0):=by rw [Na,Nc (by omega)];rfl
  have z:=zB o (by omega);refine step L j k (to.getD k.toNat 0) (a++k::b) (by omega) l (by rw [NI (by omega),e,OE];rfl) p A (by simp;omega) (by simp;omega) ?_;have hs:(a++k::b).set j (to.getD k.toNat 0)= (a++ [to.getD k.toNat 0])++b:=by rw [List.set_append_right _ _ (by omega),e,OE,Pz,Nx];rfl
  rw [hs];refine B (j+1) _ (a++ [to.getD k.toNat 0]) o (by omega) (by simpa using f) (by simp [e]) ?_ ?_
  .rw [OK f]
  .rw [List.set_set];rw [NH] at h;simpa only [Nx,ND] using h
def eY(need:List Bool)(i:Nat)(N:List Nd)(D:Nat->Nd):List (Nd×Bool):=N.mapIdx λj x=>if j < i then(if need.getD j false then(D j,true) else(x,false)) else(x,false)
theorem wD(need:List Bool)(i:Nat)(N:List Nd)(D:Nat->Nd):(eY need i N D).length=N.length:=by simp [eY]
theorem wC{need:List Bool}{i j:Nat}{N:List Nd}{D:Nat->Nd}{x:Nd}(h:N[j]? =some x):(eY need i N D)[j]? =some (if j < i then(if need.getD j false then(D j,true) else(x,false)) else(x,false)):=by unfold eY;rw [OS,h];rfl
theorem BA{need:List Bool}{i:Nat}{N:List Nd}{D:Nat->Nd}(h:need.getD i false=false):eY need (i+1) N D=eY need i N D:=by
 unfold eY;refine Oq λj=> ?_;rw [OS,OS];cases N[j]? with
 | none=>rfl
 | some x=>
  simp only [OI];by_cases e:j=i
  .subst e;rw [if_pos (Ps _),h,if_neg (Oz _)];rfl
  .by_cases a:j < i
   .rw [if_pos a,if_pos (by omega)]
   .rw [if_neg a,if_neg (by omega)]
theorem BB{need:List Bool}{i:Nat}{N:List Nd}{D a:Nat->Nd}{y:Nd}(h:need.getD i false=true)(d:i < N.length)(c:a=λj=>if j=i then y else D j):eY need (i+1) N a= (eY need i N D).set i (y,true):=by
 refine Oq λj=> ?_;by_cases e:j=i
 .subst e;rw [OK (by rw [wD];exact d),wC (Nc d),if_pos (Ps _),h,c];simp
 .rw [Pu (PM e)];unfold eY;rw [OS,OS];cases N[j]? with
  | none=>rfl
  | some x=>
   simp only [OI];by_cases b:j < i
   .rw [if_pos b,if_pos (by omega),c];simp only [if_neg e]
   .rw [if_neg b,if_neg (by omega)]
theorem H4(need:List Bool)(N:List Nd)(D:Nat->Nd):eY need 0 N D=N.map λx=>(x,false):=by unfold eY;refine Oq λj=> ?_;rw [OS,Ob];cases N[j]? <;> simp
open Go Go.Aev Go.IntKind
abbrev MF(L:List (Nd×Bool))(ee eh ed:Bool)(n:Nat)(hold:List Int)(ds:List (List T))(need:List Bool)(to:List Int)(x:AV):List ab:=
 [GR L ee n,ab.sl false 1 eh (enc hold),dc ed ds o0 o1,cH,ab.sl false 1 false (dM need),ab.sl false 1 false (enc to),dc ed ds x (AV.t (T.af true))]
theorem Ib{eh ee ed:Bool}{hold:List Int}{ds:List (List T)}{need:List Bool}{to:List Int}{i n:Nat}{x:Nd}(z:n<=100000)(m:x.ks.length<=1000)(w:∀k∈x.ks,0<=k/\k < (to.length:Int)){L:List (Nd×Bool)}(g:i < L.length)(s:L[i]? =some (x,false)){r:List T}
  (e:Or hY [AV.ref (Id.c 2) 0,AV.ref (Id.c 3) 0,o4,o5,AV.ref (Id.c 6) 0,o0,I (n:Int),I ((i+1:Nat):Int)] (MF (L.set i (⟨x.op,x.ek,x.ks.map λk=>to.getD k.toNat 0,x.n,x.d,x.nm⟩,true)) ee eh ed n hold ds need to (AV.own (Id.c 7))++ [ab.sl false 5 false [gp ⟨x.op,x.ek,x.ks.map λk=>to.getD k.toNat 0,x.n,x.d,x.nm⟩]])=some r) (B:i<=100000):
  Or fW [AV.ref (Id.c 2) 0,AV.ref (Id.c 3) 0,o4,o5,AV.ref (Id.c 6) 0,AV.ref (Id.c 7) 0,o0,I (n:Int),I (i:Int),AV.row (Id.c 0) i,I (x.ks.length:Int),I 0] (MF L ee eh ed n hold ds need to (AV.t (T.af true))++ [ab.box [I x.op,AV.row (Id.c 0) i,I x.n,I x.d,AV.t (T.str x.nm)]])=some r:=by
 refine Cv (need:=need) (outB:=AV.t (T.af true)) (more:= []) z m w (λL j k v o p f l h A u y e=> ?_) x.ks 0 L [] rfl (OY _) g rfl s ?_
 .have h0: 0<=(j:Int):=by omega
  have q:(j:Int) < (o.length:Int):=by omega
  refine ah ?_;show aA ao ann Or fW _ [GR L ee n,ab.sl false 1 eh (enc hold),dc ed ds o0 o1,cH,ab.sl false 1 false (dM need),ab.sl false 1 false (enc to),dc ed ds (AV.t (T.af true)) (AV.t (T.af true)),ab.box [I x.op,AV.row (Id.c 0) i,I x.n,I x.d,AV.t (T.str x.nm)]]=_;rw [z6];simp only [aj,↓reduceIte,Int.reduceBEq,Int.reduceEq,p,h0,and_self,pj f,aD,q,eO l,h,eO A,NM,uD v u,next j (by omega)];have:=Bx (ks:=o.set j v) f;rw [this];exact e
 .have a:(L.set i (⟨x.op,x.ek,[] ++x.ks.map (λk=>to.getD k.toNat 0),x.n,x.d,x.nm⟩,false))[i]? =some (⟨x.op,x.ek,x.ks.map λk=>to.getD k.toNat 0,x.n,x.d,x.nm⟩,false):=by
   rw [OK g];rfl
  have b:=Bw a;rw [List.set_set] at b;refine ah ?_;show aA ao ann Or fW _ [GR (L.set i (⟨x.op,x.ek,[] ++x.ks.map (λk=>to.getD k.toNat 0),x.n,x.d,x.nm⟩,false)) ee n,ab.sl false 1 eh (enc hold),dc ed ds o0 o1,cH,ab.sl false 1 false (dM need),ab.sl false 1 false (enc to),dc ed ds (AV.t (T.af true)) (AV.t (T.af true)),ab.box [I x.op,AV.row (Id.c 0) i,I x.n,I x.d,AV.t (T.str x.nm)]]=_;rw [z6];simp only [aj,↓reduceIte,Int.reduceBEq,Int.reduceEq,NO,decide_false,pj a,b,next i (by omega)];exact e
theorem Ic{eh ee ed:Bool}{hold:List Int}{ds:List (List T)}{need:List Bool}{to:List Int}{i n:Nat}{x:Nd}{out:List Nd}(C:out.length<=100000)(z:n<=100000)(m:x.ks.length<=1000)(w:∀k∈x.ks,0<=k/\k < (to.length:Int)){L:List (Nd×Bool)}(g:i < L.length)(s:L[i]? =some (x,false)){r:List T}
  (a:Or hY [AV.ref (Id.c 2) 0,AV.ref (Id.c 3) 0,o4,o5,AV.ref (Id.c 6) 0,o0,I (n:Int),I ((i+1:Nat):Int)] (MF (L.set i (⟨x.op,x.ek,x.ks.map λk=>to.getD k.toNat 0,x.n,x.d,x.nm⟩,true)) ee eh ed n hold ds need to (AV.own (Id.c 7))++ [ab.sl false 5 false ((out++ [(⟨x.op,x.ek,x.ks.map λk=>to.getD k.toNat 0,x.n,x.d,x.nm⟩:Nd)]).map gp)])=some r) (B:i<=100000):
  Or fW [AV.ref (Id.c 2) 0,AV.ref (Id.c 3) 0,o4,o5,AV.ref (Id.c 6) 0,AV.ref (Id.c 7) 0,o0,I (n:Int),I (i:Int),AV.row (Id.c 0) i,I (x.ks.length:Int),I 0] (MF L ee eh ed n hold ds need to (AV.own (Id.c 8))++ [ab.box [I x.op,AV.row (Id.c 0) i,I x.n,I x.d,AV.t (T.str x.nm)],ab.sl false 5 false (out.map gp)])=some r:=by
 refine Cv (need:=need) (outB:=AV.own (Id.c 8)) (more:= [ab.sl false 5 false (out.map gp)]) z m w (λL j k v o p f l h A u y a=> ?_) x.ks 0 L [] rfl (OY _) g rfl s ?_
 .have h0: 0<=(j:Int):=by omega
  have q:(j:Int) < (o.length:Int):=by omega
  refine ah ?_;show aA ao ann Or fW _ [GR L ee n,ab.sl false 1 eh (enc hold),dc ed ds o0 o1,cH,ab.sl false 1 false (dM need),ab.sl false 1 false (enc to),dc ed ds (AV.own (Id.c 8)) (AV.t (T.af true)),ab.box [I x.op,AV.row (Id.c 0) i,I x.n,I x.d,AV.t (T.str x.nm)],ab.sl false 5 false (out.map gp)]=_;rw [z7];simp only [aj,↓reduceIte,Int.reduceBEq,Int.reduceEq,p,h0,and_self,pj f,aD,q,eO l,h,eO A,NM,uD v u,next j (by omega)];have:=Bx (ks:=o.set j v) f;rw [this];exact a
 .have b:(L.set i (⟨x.op,x.ek,[] ++x.ks.map (λk=>to.getD k.toNat 0),x.n,x.d,x.nm⟩,false))[i]? =some (⟨x.op,x.ek,x.ks.map λk=>to.getD k.toNat 0,x.n,x.d,x.nm⟩,false):=by
   rw [OK g];rfl
  have e:=Bw b;rw [List.set_set] at e;rw [Pf] at a;refine ah ?_;show aA ao ann Or fW _ [GR (L.set i (⟨x.op,x.ek,[] ++x.ks.map (λk=>to.getD k.toNat 0),x.n,x.d,x.nm⟩,false)) ee n,ab.sl false 1 eh (enc hold),dc ed ds o0 o1,cH,ab.sl false 1 false (dM need),ab.sl false 1 false (enc to),dc ed ds (AV.own (Id.c 8)) (AV.t (T.af true)),ab.box [I x.op,AV.row (Id.c 0) i,I x.n,I x.d,AV.t (T.str x.nm)],ab.sl false 5 false (out.map gp)]=_;rw [z7];simp only [aj,↓reduceIte,Int.reduceBEq,Int.reduceEq,NO,decide_false,pj b,e,next i (by omega),N3,Nk,cS (show out.length+1<=1000000 by omega)];exact a
theorem BW{need:List Bool}{i:Nat}{x:Nd}{r:List Nd}{to:List Int}{out:List Nd}(h:need.getD i false=true):dA need i (x::r) to out=dA need (i+1) r (to.set i (out.length:Int)) (out++ [⟨x.op,x.ek,x.ks.map λk=>(to.set i (out.length:Int)).getD k.toNat 0,x.n,x.d,x.nm⟩]):=by rw [dA,if_pos h]
theorem BV{need:List Bool}{i:Nat}{x:Nd}{r:List Nd}{to:List Int}{out:List Nd}(h:need.getD i false=false):dA need i (x::r) to out=dA need (i+1) r to out:=by rw [dA,if_neg (by rw [h];simp)]
theorem Je{N:List Nd}{eh ee ed:Bool}{hold:List Int}{ds:List (List T)}{need:List Bool}(K:N.length<=90000)(w:∀x∈N,x.ks.length<=1000)(y:∀(i:Nat) (x:Nd),N[i]? =some x->∀k∈x.ks,0<=k/\k < (i:Int))(H:need.length=N.length){r:List T}:∀(a:List Nd) (i:Nat) (to:List Int) (out:List Nd) (D:Nat->Nd),N.drop i=a->i<=N.length->to.length=N.length->out.length<=i->
  (∀L,Or fC [AV.ref (Id.c 2) 0,AV.own (Id.c 3),AV.ref (Id.c 4) 0,o1,I (hold.length:Int),I 0] [GR L ee N.length,ab.sl false 1 eh (enc hold),cH,ab.sl false 1 false (enc (dA need i a to out).1),dc ed ds (AV.own (Id.c 5)) (AV.t (T.af true)),ab.sl false 5 false ((dA need i a to out).2.map gp)]=some r)->
  Or hY [AV.ref (Id.c 2) 0,AV.ref (Id.c 3) 0,o4,o5,AV.ref (Id.c 6) 0,o0,I (N.length:Int),I (i:Int)] (MF (eY need i N D) ee eh ed N.length hold ds need to (AV.own (Id.c 7))++ [ab.sl false 5 false (out.map gp)])=some r:=by
 intro a;induction a with
 | nil=>
  intro i to out D g E h A e;have o:¬(i:Int) < (N.length:Int):=by have:=bx g;omega
  refine ah ?_;show aA ao ann Or hY _ [GR (eY need i N D) ee N.length,ab.sl false 1 eh (enc hold),dc ed ds o0 o1,cH,ab.sl false 1 false (dM need),ab.sl false 1 false (enc to),dc ed ds (AV.own (Id.c 7)) (AV.t (T.af true)),ab.sl false 5 false (out.map gp)]=_;rw [vJ];simp only [aj,↓reduceIte,Int.reduceBEq,Int.reduceEq,o,aD];exact e _
 | cons x a B=>
  intro i to out D g E h A e;obtain⟨s,J,u⟩:=bz g;have o:(i:Int) < (N.length:Int):=by omega
  have h0: 0<=(i:Int):=by omega
  have p:need[i]? =some (need.getD i false):=by rw [Na,Nc (by omega)];rfl
  have q:(eY need i N D)[i]? =some (x,false):=by rw [wC s,if_neg (Oz _)]
  have f:=wD need i N D;have v:(i:Int) < (need.length:Int):=by omega
  cases b:need.getD i false with
  | false=>rw [b] at p;rw [BV b] at e;have m:=B (i+1) to out D u (by omega) h (by omega) e;rw [BA b] at m;refine ah ?_;show aA ao ann Or hY _ [GR (eY need i N D) ee N.length,ab.sl false 1 eh (enc hold),dc ed ds o0 o1,cH,ab.sl false 1 false (dM need),ab.sl false 1 false (enc to),dc ed ds (AV.own (Id.c 7)) (AV.t (T.af true)),ab.sl false 5 false (out.map gp)]=_;rw [vJ];simp only [aj,↓reduceIte,Int.reduceBEq,Int.reduceEq,o,h0,and_self,rN,f,NM,tp q,uk,kr,v,nK p,Nb,next i (by omega)];exact m
  | true=>
   rw [b] at p;rw [BW b] at e;have C:(i:Int) < (to.length:Int):=by omega
   have z:=y i x s;have m:=B (i+1) (to.set i (out.length:Int)) (out++ [⟨x.op,x.ek,x.ks.map λk=>(to.set i (out.length:Int)).getD k.toNat 0,x.n,x.d,x.nm⟩]) (λj=>if j=i then⟨x.op,x.ek,x.ks.map λk=>(to.set i (out.length:Int)).getD k.toNat 0,x.n,x.d,x.nm⟩ else D j) u (by omega) (by simp [h]) (by simp;omega) e;rw [BB b (by omega) rfl] at m;have G:=Ic (eh:=eh) (ee:=ee) (ed:=ed) (hold:=hold) (ds:=ds) (need:=need) (to:=to.set i (out.length:Int)) (i:=i) (n:=N.length) (x:=x) (out:=out) (by omega) (by omega) (w x (Nh s)) (λk F=>by have:=z k F;rw [O6];omega) (L:=eY need i N D) (by rw [f];omega) q m (by omega);refine ah ?_;show aA ao ann Or hY _ [GR (eY need i N D) ee N.length,ab.sl false 1 eh (enc hold),dc ed ds o0 o1,cH,ab.sl false 1 false (dM need),ab.sl false 1 false (enc to),dc ed ds (AV.own (Id.c 7)) (AV.t (T.af true)),ab.sl false 5 false (out.map gp)]=_;rw [vJ];simp only [aj,↓reduceIte,Int.reduceBEq,Int.reduceEq,o,h0,and_self,rN,f,NM,tp q,uk,Dx,kr,v,nK p,M8,aD,C,N3,uD (l:=to) (i:=i) (out.length:Int) (by omega),pj q];exact G
def LN(l:List Nd):T:=if l.isEmpty then T.af true else T.ad 5 false (aV l)
theorem Iy(l:List Nd):(LN l).au 5=some (l.isEmpty,aV l):=by cases l <;> rfl
abbrev FB(L:List (Nd×Bool))(ee eh ed:Bool)(n:Nat)(hold:List Int)(ds:List (List T))(to:List Int)(out:List Nd):List ab:=
 match out with
 | []=> [GR L ee n,ab.sl false 1 eh (enc hold),cH,ab.sl false 1 false (enc to),dc ed ds (AV.t (T.af true)) (AV.t (T.af true))]
 | x::r=> [GR L ee n,ab.sl false 1 eh (enc hold),cH,ab.sl false 1 false (enc to),dc ed ds (AV.own (Id.c 5)) (AV.t (T.af true)),ab.sl false 5 false ((x::r).map gp)]
theorem wQ{need:List Bool}:∀(a:List Nd) (i:Nat) (to:List Int) (out:List Nd),out≠[]->(dA need i a to out).2≠[]
 | [],_,_,_,h=>h
 | x::a,i,to,out,h=>by
  rw [dA];split
  .exact wQ a _ _ _ (by simp)
  .exact wQ a _ _ _ h
theorem Jd{N:List Nd}{eh ee ed:Bool}{hold:List Int}{ds:List (List T)}{need:List Bool}(J:N.length<=90000)(z:∀x∈N,x.ks.length<=1000)(A:∀(i:Nat) (x:Nd),N[i]? =some x->∀k∈x.ks,0<=k/\k < (i:Int))(G:need.length=N.length){r:List T}:∀(e:List Nd) (i:Nat) (to:List Int) (D:Nat->Nd),N.drop i=e->i<=N.length->to.length=N.length->
  (∀L,Or fC [AV.ref (Id.c 2) 0,AV.own (Id.c 3),AV.ref (Id.c 4) 0,o1,I (hold.length:Int),I 0] (FB L ee eh ed N.length hold ds (dA need i e to []).1 (dA need i e to []).2)=some r)->
  Or hY [AV.ref (Id.c 2) 0,AV.ref (Id.c 3) 0,o4,o5,AV.ref (Id.c 6) 0,o0,I (N.length:Int),I (i:Int)] (MF (eY need i N D) ee eh ed N.length hold ds need to (AV.t (T.af true)))=some r:=by
 intro e;induction e with
 | nil=>
  intro i to D g K u o;have m:¬(i:Int) < (N.length:Int):=by have:=bx g;omega
  refine ah ?_;rw [vI];simp only [aj,↓reduceIte,Int.reduceBEq,Int.reduceEq,m,aD];exact o _
 | cons x e P=>
  intro i to D g K u o;obtain⟨B,Q,C⟩:=bz g;have m:(i:Int) < (N.length:Int):=by omega
  have h0: 0<=(i:Int):=by omega
  have w:need[i]? =some (need.getD i false):=by rw [Na,Nc (by omega)];rfl
  have y:(eY need i N D)[i]? =some (x,false):=by rw [wC B,if_neg (Oz _)]
  have s:=wD need i N D;have p:(i:Int) < (need.length:Int):=by omega
  cases f:need.getD i false with
  | false=>rw [f] at w;rw [BV f] at o;have v:=P (i+1) to D C (by omega) u o;rw [BA f] at v;refine ah ?_;rw [vI];simp only [aj,↓reduceIte,Int.reduceBEq,Int.reduceEq,m,h0,and_self,rN,s,NM,tp y,uk,kr,p,nK w,Nb,next i (by omega)];exact v
  | true=>
   rw [f] at w;rw [BW f] at o;have H:(i:Int) < (to.length:Int):=by omega
   have E:=A i x B;have v:=Je (eh:=eh) (ee:=ee) (ed:=ed) (hold:=hold) (ds:=ds) (need:=need) J z A G (r:=r) e (i+1) (to.set i ((0:Nat):Int)) [⟨x.op,x.ek,x.ks.map λk=>(to.set i ((0:Nat):Int)).getD k.toNat 0,x.n,x.d,x.nm⟩] (λj=>if j=i then⟨x.op,x.ek,x.ks.map λk=>(to.set i ((0:Nat):Int)).getD k.toNat 0,x.n,x.d,x.nm⟩ else D j) C (by omega) (by simp [u]) (by simp) (λL=>by
    have h:=o L;have F:=wQ (need:=need) e (i+1) (to.set i ((0:Nat):Int)) [⟨x.op,x.ek,x.ks.map λk=>(to.set i ((0:Nat):Int)).getD k.toNat 0,x.n,x.d,x.nm⟩] (by simp);simp only [Nw,Ow] at h;revert h F;generalize (dA need (i+1) e (to.set i ((0:Nat):Int)) [⟨x.op,x.ek,x.ks.map λk=>(to.set i ((0:Nat):Int)).getD k.toNat 0,x.n,x.d,x.nm⟩]).2=q;intro m p;cases q with
    | nil=>first | exact absurd rfl m | exact absurd rfl p
    | cons a b=>first | exact m | exact p)
   rw [BB f (by omega) rfl] at v;have O:=Ib (eh:=eh) (ee:=ee) (ed:=ed) (hold:=hold) (ds:=ds) (need:=need) (to:=to.set i ((0:Nat):Int)) (i:=i) (n:=N.length) (x:=x) (by omega) (z x (Nh B)) (λk M=>by have:=E k M;rw [O6];omega) (L:=eY need i N D) (by rw [s];omega) y v (by omega);refine ah ?_;rw [vI];simp only [aj,↓reduceIte,Int.reduceBEq,Int.reduceEq,m,h0,and_self,rN,s,NM,tp y,uk,Dx,kr,p,nK w,M8,aD,H,uD (l:=to) (i:=i) (0:Int) (by omega),pj y];exact O
theorem Jf{L:List (Nd×Bool)}{ee eh ed:Bool}{n:Nat}{hold:List Int}{ds:List (List T)}{to:List Int}{out:List Nd}(hl:hold.length<=1000)(o:∀k∈hold,0<=k/\k < (to.length:Int)):
  Or fC [AV.ref (Id.c 2) 0,AV.own (Id.c 3),AV.ref (Id.c 4) 0,o1,I (hold.length:Int),I 0] (FB L ee eh ed n hold ds to out)=some [T.ad 3 ed ds,LN out,LO (hold.map λk=>to.getD k.toNat 0)]:=by
 have p:∀k∈hold,to[k.toNat]? =some (to.getD k.toNat 0):=λk hm=>by have:=o k hm;rw [Na,Nc (by omega)];rfl
 cases out with
 | nil=>
  have u:∀(a:List Int) (j:Nat) (acc:List Int),hold.drop j=a->j<=hold.length->acc.length=j->
    Or fC [AV.ref (Id.c 2) 0,AV.own (Id.c 3),AV.ref (Id.c 4) 0,o1,I (hold.length:Int),I (j:Int)] [GR L ee n,ab.sl false 1 eh (enc hold),cH,ab.sl false 1 false (enc to),dc ed ds (AV.t (T.af true)) (AV.own (Id.c 5)),ab.sl false 1 false (enc acc)]=some [T.ad 3 ed ds,T.af true,T.ad 1 false (enc (acc++a.map λk=>to.getD k.toNat 0))]:=by
   intro a;induction a with
   | nil=>
    intro j acc g r e;have d:¬(j:Int) < (hold.length:Int):=by have:=bx g;omega
    refine ah ?_;rw [Ab];simp only [aj,↓reduceIte,Int.reduceBEq,Int.reduceEq,d,Oe,Nz]
   | cons k a s=>
    intro j acc g r e;obtain⟨b,w,q⟩:=bz g;have d:(j:Int) < (hold.length:Int):=by omega
    have h0: 0<=(j:Int):=by omega
    have h:=o k (Nh b);have i:=p k (Nh b);have m:=s (j+1) (acc++ [to.getD k.toNat 0]) q (by omega) (by simp [e]);simp only [Nx,ND] at m;rw [NH];refine ah ?_;rw [Ab];simp only [aj,↓reduceIte,Int.reduceBEq,Int.reduceEq,d,h0,and_self,aD,bC b,h,eO i,Nk,cS (show acc.length+1<=1000000 by omega),next j (by omega),ez];exact m
  cases f:hold with
  | nil=>refine ah ?_;show aA ao ann Or fC _ [GR L ee n,ab.sl false 1 eh (enc []),cH,ab.sl false 1 false (enc to),dc ed ds (AV.t (T.af true)) (AV.t (T.af true))]=_;rw [Aa];simp only [aj,↓reduceIte,Int.reduceBEq,Int.reduceEq,Nw,NK,NO,decide_false];rfl
  | cons k a=>
   have h:=o k (by rw [f];exact M3);have i:=p k (by rw [f];exact M3);have m:=u a 1 [to.getD k.toNat 0] (by rw [f];rfl) (by rw [f];simp) rfl;rw [f] at m;have d:(0:Int) < (((k::a).length:Nat):Int):=by simp
   have h0:(0:Int)<=0:=by omega
   have b:(enc (k::a))[(0:Int).toNat]? =some [ti k]:=rfl;have v:i64.wrap (0+1)= ((1:Nat):Int):=by decide
   refine ah ?_;show aA ao ann Or fC _ [GR L ee n,ab.sl false 1 eh (enc (k::a)),cH,ab.sl false 1 false (enc to),dc ed ds (AV.t (T.af true)) (AV.t (T.af true))]=_;rw [Aa];simp only [aj,↓reduceIte,Int.reduceBEq,Int.reduceEq,d,h0,and_self,aD,b,h,eO i,v];exact m
 | cons x xs=>
  have u:∀(a:List Int) (j:Nat) (acc:List Int),hold.drop j=a->j<=hold.length->acc.length=j->
    Or fC [AV.ref (Id.c 2) 0,AV.own (Id.c 3),AV.ref (Id.c 4) 0,o1,I (hold.length:Int),I (j:Int)] [GR L ee n,ab.sl false 1 eh (enc hold),cH,ab.sl false 1 false (enc to),dc ed ds (AV.own (Id.c 5)) (AV.own (Id.c 6)),ab.sl false 5 false ((x::xs).map gp),ab.sl false 1 false (enc acc)]=some [T.ad 3 ed ds,T.ad 5 false ((x::xs).map gp),T.ad 1 false (enc (acc++a.map λk=>to.getD k.toNat 0))]:=by
   intro a;induction a with
   | nil=>
    intro j acc g r e;have d:¬(j:Int) < (hold.length:Int):=by have:=bx g;omega
    refine ah ?_;rw [Ae];simp only [aj,↓reduceIte,Int.reduceBEq,Int.reduceEq,d,Oe,Nz]
   | cons k a s=>
    intro j acc g r e;obtain⟨b,w,q⟩:=bz g;have d:(j:Int) < (hold.length:Int):=by omega
    have h0: 0<=(j:Int):=by omega
    have h:=o k (Nh b);have i:=p k (Nh b);have m:=s (j+1) (acc++ [to.getD k.toNat 0]) q (by omega) (by simp [e]);simp only [Nx,ND] at m;rw [NH (l:=a)];refine ah ?_;rw [Ae];simp only [aj,↓reduceIte,Int.reduceBEq,Int.reduceEq,d,h0,and_self,aD,bC b,h,eO i,Nk,cS (show acc.length+1<=1000000 by omega),next j (by omega),ez];exact m
  cases f:hold with
  | nil=>refine ah ?_;show aA ao ann Or fC _ [GR L ee n,ab.sl false 1 eh (enc []),cH,ab.sl false 1 false (enc to),dc ed ds (AV.own (Id.c 5)) (AV.t (T.af true)),ab.sl false 5 false ((x::xs).map gp)]=_;rw [Ac];simp only [aj,↓reduceIte,Int.reduceBEq,Int.reduceEq,Nw,NK,NO,decide_false];rfl
  | cons k a=>
   have h:=o k (by rw [f];exact M3);have i:=p k (by rw [f];exact M3);have m:=u a 1 [to.getD k.toNat 0] (by rw [f];rfl) (by rw [f];simp) rfl;rw [f] at m;have d:(0:Int) < (((k::a).length:Nat):Int):=by simp
   have h0:(0:Int)<=0:=by omega
   have b:(enc (k::a))[(0:Int).toNat]? =some [ti k]:=rfl;have v:i64.wrap (0+1)= ((1:Nat):Int):=by decide
   refine ah ?_;show aA ao ann Or fC _ [GR L ee n,ab.sl false 1 eh (enc (k::a)),cH,ab.sl false 1 false (enc to),dc ed ds (AV.own (Id.c 5)) (AV.t (T.af true)),ab.sl false 5 false ((x::xs).map gp)]=_;rw [Ac];simp only [aj,↓reduceIte,Int.reduceBEq,Int.reduceEq,d,h0,and_self,aD,b,h,eO i,v];exact m
theorem wP{need:List Bool}:∀(a:List Nd) (i:Nat) (to:List Int) (out:List Nd),(dA need i a to out).1.length=to.length
 | [],_,_,_=>rfl
 | x::a,i,to,out=>by
  rw [dA];split
  .rw [wP a];simp
  .exact wP a _ _ _
theorem K5{N:List Nd}{eh ed:Bool}{hold:List Int}{ds:List (List T)}(p:N.length<=90000)(hl:hold.length<=1000)(d:∀x∈N,x.ks.length<=1000)(e:∀(i:Nat) (x:Nd),N[i]? =some x->∀k∈x.ks,0<=k/\k < (i:Int))(l:∀k∈hold,0<=k/\k < (N.length:Int)):
  Or (.call 34) [AV.agg [AV.t (T.ad 3 ed ds),o0,o1]] [ab.rows N.isEmpty 5 1 1 N.length (rows N),ab.sl false 1 eh (enc hold)]=some [T.ad 3 ed ds,LN (hJ N hold).1,LO (hJ N hold).2]:=by
 unfold hJ;dsimp only;have g:(dG (List.replicate N.length false) hold).length=N.length:=by rw [pC,OC]
 have b:(back N (dG (List.replicate N.length false) hold) N.length).length=N.length:=by rw [yX,g]
 have f:=λL=>Jf (L:=L) (ee:=N.isEmpty) (eh:=eh) (ed:=ed) (n:=N.length) (hold:=hold) (ds:=ds) (to:=(dA (back N (dG (List.replicate N.length false) hold) N.length) 0 N (List.replicate N.length 0) []).1) (out:=(dA (back N (dG (List.replicate N.length false) hold) N.length) 0 N (List.replicate N.length 0) []).2) hl (λk hm=>by rw [wP,OC];exact l k hm);have h:=Jd (eh:=eh) (ee:=N.isEmpty) (ed:=ed) (hold:=hold) (ds:=ds) p d e b N 0 (List.replicate N.length 0) (λ_=>⟨0,true,[],0,0,s0⟩) rfl (OY _) (by simp) f;rw [H4] at h;have j:Or kO [AV.ref (Id.c 2) 0,AV.ref (Id.c 3) 0,o4,I (-1)] [ab.rows N.isEmpty 5 1 1 N.length (rows N),ab.sl false 1 eh (enc hold),ab.box [AV.t (T.ad 3 ed ds),o0,o1],cH,ab.sl false 1 false (dM (back N (dG (List.replicate N.length false) hold) N.length))]=some [T.ad 3 ed ds,LN (dA (back N (dG (List.replicate N.length false) hold) N.length) 0 N (List.replicate N.length 0) []).2,LO (hold.map λk=>(dA (back N (dG (List.replicate N.length false) hold) N.length) 0 N (List.replicate N.length 0) []).1.getD k.toNat 0)]:=by
  have o:¬(-1:Int)>=0:=by omega
  have hm:kC (N.length:Int) (N.length:Int)=some ():=by unfold kC;rw [if_pos ⟨by omega,by omega,by unfold kA;omega⟩]
  have a:List.replicate ((N.length:Int)).toNat [ti 0]=enc (List.replicate N.length 0):=by simp [enc]
  refine ah ?_;rw [vK];simp only [aj,↓reduceIte,Int.reduceBEq,Int.reduceEq,o,kr,b,hm,a,aQ];simp only [MF,GR,DA] at h;exact h
 have q:=Jc (eh:=eh) (hold:=hold) (ed:=ed) (ds:=ds) (show N.length<=100000 by omega) d e N.length (dG (List.replicate N.length false) hold) (Ns _) g j;have m:=Jh (eh:=eh) (ed:=ed) (ds:=ds) hl hold 0 (List.replicate N.length false) rfl (by simp) (by omega) l q;have hm:kC (N.length:Int) (N.length:Int)=some ():=by unfold kC;rw [if_pos ⟨by omega,by omega,by unfold kA;omega⟩]
 have a:List.replicate ((N.length:Int)).toNat [tb false]=dM (List.replicate N.length false):=by simp [dM]
 refine ah ?_;rw [Gl];simp only [aj,↓reduceIte,Int.reduceBEq,Int.reduceEq,aQ,hm,a,aD];exact m
open Go Go.Aev Go.IntKind
theorem nE(x:ByteArray):x.data.toList.length=x.size:=by rw [NB];rfl
def iL(s p:ByteArray):Bool:=decide ((s.size:Int)>=(p.size:Int)) && decide (s.extract 0 p.size=p)
def hH(s p:ByteArray):Bool:=iL s p && (match s.data.toList[p.size]? with
 | some u=>decide ((u.toNat:Int)>=48) && decide ((u.toNat:Int)<=57)
 | none=>false)
theorem KF(s p:ByteArray):Or (.call 103) [AV.t (T.str s),AV.t (T.str p)] []=some [tb (iL s p)]:=by
 unfold iL;refine ah ?_;rw [F1];by_cases h:(s.size:Int)>=(p.size:Int)
 .have a:eZ 0 (p.size:Int) (s.size:Int)=some ():=by unfold eZ;rw [if_pos ⟨by omega,by omega,by omega⟩]
  simp only [aj,↓reduceIte,Int.reduceBEq,Int.reduceEq,h,a,decide_true,NM,mX]
 .simp only [bo,aj,↓reduceIte,Int.reduceBEq,Int.reduceEq,h,decide_false]
def iS(s p:ByteArray):ByteArray:=if iL s p then s.extract p.size s.size else s
theorem Lc(s p:ByteArray):Or (.call 58) [AV.t (T.str s),AV.t (T.str p)] []=some [T.str (iS s p),tb (iL s p)]:=by
 have k:=KF s p;have c:Or (.call 90) [AV.t (T.str s),AV.t (T.str p)] []=some [T.str (iS s p),tb (iL s p)]:=by
  unfold iS;refine ah ?_;rw [Hq];cases a:iL s p with
  | false=>rw [a] at k;simp only [aj,↓reduceIte,Int.reduceBEq,Int.reduceEq,k,Nb];rfl
  | true=>
   rw [a] at k;have hs:(p.size:Int)<=(s.size:Int):=by unfold iL at a;simp only [M7,decide_eq_true_eq] at a;exact a.1
   have b:eZ (p.size:Int) (s.size:Int) (s.size:Int)=some ():=by unfold eZ;rw [if_pos ⟨by omega,by omega,by omega⟩]
   simp only [aj,↓reduceIte,Int.reduceBEq,Int.reduceEq,k,M8,b,NM]
 refine ah ?_;rw [Gy];simp only [aj,↓reduceIte,Int.reduceBEq,Int.reduceEq,c]
theorem Lb(nm p:ByteArray)(ea:Bool)(ar:List (List T))(so:Int):Or (.call 57) [AV.agg [AV.t (T.str nm),AV.t (T.ad 1 ea ar),I so],AV.t (T.ptr [T.str p])] []=some [tb (hH nm p)]:=by
 have k:=Lc nm p;unfold hH;refine ah ?_;rw [Gx];cases c:iL nm p with
 | false=>rw [c] at k;simp only [bo,aj,↓reduceIte,Int.reduceBEq,Int.reduceEq,k]
 | true=>
  have e:iS nm p=nm.extract p.size nm.size:=by unfold iS;rw [c];rfl
  have el:(iS nm p).data.toList=nm.data.toList.drop p.size:=by rw [e];exact Go.Lib.extract_to_end nm p.size
  have es:(iS nm p).size=nm.size - p.size:=by have:=congrArg List.length el;rw [Oj,nE,nE] at this;exact this
  rw [c] at k;have g:(iS nm p).data.toList[0]? =nm.data.toList[p.size]?:=by rw [el,Pd,Pa]
  cases b:nm.data.toList[p.size]? with
  | none=>
   have f:iS nm p=ByteArray.mk #[]:=by
    have:(iS nm p).data.toList= []:=by rw [el];have:=List.getElem?_eq_none_iff.1 b;exact OW this
    cases h:iS nm p with
    | mk d=>rw [h] at this;simp only at this;rw [Array.toList_eq_nil_iff.1 this]
   simp only [bo,aj,↓reduceIte,Int.reduceBEq,Int.reduceEq,k,mX,f,decide_true,M8]
  | some u=>
   have j:p.size < nm.size:=by have:=(M5.1 b).1;rw [nE] at this;exact this
   have f:¬iS nm p=ByteArray.mk #[]:=λh=>by have:=congrArg ByteArray.size h;rw [es] at this;have l:(ByteArray.mk #[]).size=0:=rfl;omega
   have i:(0:Int)<=0/\(0:Int) < ((iS nm p).size:Int):=by rw [es];omega
   rw [b] at g;simp only [aj,↓reduceIte,Int.reduceBEq,Int.reduceEq,k,mX,f,decide_false,Nb,i,and_self,g];by_cases a:(u.toNat:Int)>=48
   .simp only [aj,↓reduceIte,Int.reduceBEq,Int.reduceEq,a,decide_true]
   .simp only [bo,aj,↓reduceIte,Int.reduceBEq,Int.reduceEq,a,decide_false]
def fR(ds:List Dc)(p:ByteArray):Bool:=ds.any λd=>hH d.nm p
theorem Cy{e:Bool}{ds:List Dc}{p:ByteArray}(hl:ds.length<=100):∀(r:List Dc) (i:Nat),ds.drop i=r->
  ∃z:Int,Or fX [AV.t (T.ad 3 e (aI ds)),AV.fn 57 [] [AV.t (T.ptr [T.str p])],I (ds.length:Int),I (i:Int)] []=some [ti z]/\decide (z>=0)=r.any λd=>hH d.nm p:=by
 intro r;induction r with
 | nil=>
  intro i g;have a:¬(i:Int) < (ds.length:Int):=by have:=bx g;omega
  refine⟨-1,ah ?_,by simp⟩;rw [vX];simp only [aj,↓reduceIte,Int.reduceBEq,Int.reduceEq,a]
 | cons d r h=>
  intro i g;obtain⟨c,m,f⟩:=bz g;have a:(i:Int) < (ds.length:Int):=by omega
  have h0: 0<=(i:Int):=by omega
  have k:=Lb d.nm p d.ea (enc d.ar) d.so;cases b:hH d.nm p with
  | true=>rw [b] at k;refine⟨(i:Int),ah ?_,by simp [b]⟩;rw [vX];simp only [aj,↓reduceIte,Int.reduceBEq,Int.reduceEq,a,h0,and_self,ca,dv c,k]
  | false=>rw [b] at k;obtain⟨z,j,l⟩:=h (i+1) f;refine⟨z,ah ?_,by rw [l];simp [b]⟩;rw [vX];simp only [aj,↓reduceIte,Int.reduceBEq,Int.reduceEq,a,h0,and_self,ca,dv c,k,next i (by omega)];exact j
def gT(ds:List Dc):Nat->ByteArray->ByteArray
 | 0,p=>p
 | k+1,p=>if fR ds p then gT ds k (p++us) else p
theorem p7{ds:List Dc}{p:ByteArray}(hs:∀d∈ds,d.nm.size<=12)(h:fR ds p=true):p.size < 12:=by
 unfold fR at h;obtain⟨d,a,h⟩:=OU.1 h;unfold hH at h;simp only [M7] at h;split at h
 .rename_i u b;have:=(M5.1 b).1;have c:=hs d a;have e:=nE d.nm;omega
 .cases h.2
theorem I1{ed en eh:Bool}{ds:List Dc}{ns:List (List T)}{hs:List (List T)}(hl:ds.length<=100)(c:∀d∈ds,d.nm.size<=12):∀(k:Nat) (p:ByteArray),12<=p.size+k->p.size<=12->
  Or sb [r0,r1] [ab.box [AV.t (T.ad 3 ed (aI ds)),AV.t (T.ad 5 en ns),AV.t (T.ad 1 eh hs)],ab.box [AV.t (T.str p)]]=some [T.str (gT ds k p)]:=by
 intro k;induction k with
 | zero=>
  intro p l m;obtain⟨z,g,i⟩:=Cy (e:=ed) (p:=p) hl ds 0 rfl;have b:Or (.call 89) [AV.t (T.ad 3 ed (aI ds)),AV.fn 57 [] [AV.t (T.ptr [T.str p])]] []=some [ti z]:=by refine ah ?_;rw [AN];simp only [ca];exact g
  have nt:fR ds p=false:=by
   cases h:fR ds p with
   | false=>rfl
   | true=>have:=p7 c h;omega
  have a:Or (.call 55) [AV.t (T.ad 3 ed (aI ds)),AV.fn 57 [] [AV.t (T.ptr [T.str p])]] []=some [tb false]:=by rw [<-nt];refine ah ?_;rw [Ai];simp only [aj,↓reduceIte,Int.reduceBEq,Int.reduceEq,b,i,fR]
  rw [gT];refine ah ?_;rw [vF];simp only [aj,↓reduceIte,Int.reduceBEq,Int.reduceEq,a]
 | succ k o=>
  intro p l m;obtain⟨z,g,i⟩:=Cy (e:=ed) (p:=p) hl ds 0 rfl;have b:Or (.call 89) [AV.t (T.ad 3 ed (aI ds)),AV.fn 57 [] [AV.t (T.ptr [T.str p])]] []=some [ti z]:=by refine ah ?_;rw [AN];simp only [ca];exact g
  have a:Or (.call 55) [AV.t (T.ad 3 ed (aI ds)),AV.fn 57 [] [AV.t (T.ptr [T.str p])]] []=some [tb (fR ds p)]:=by refine ah ?_;rw [Ai];simp only [aj,↓reduceIte,Int.reduceBEq,Int.reduceEq,b,i,fR]
  rw [gT];cases f:fR ds p with
  | false=>rw [f] at a;refine ah ?_;rw [vF];simp only [aj,↓reduceIte,Int.reduceBEq,Int.reduceEq,a];rfl
  | true=>
   rw [f] at a;have:=p7 c f;have n:=o (p++us) (by rw [Np,dW];omega) (by rw [Np,dW];omega);have j:p.size+1<=4294967296:=by omega
   refine ah ?_;rw [vF];simp only [aj,↓reduceIte,Int.reduceBEq,Int.reduceEq,a,j];exact n
def cM(ds:List Dc):ByteArray:=gT ds 11 us
theorem rE{ds:List Dc}(a:∀d∈ds,d.nm.size<=12):∀(k:Nat) (p:ByteArray),p.size<=12->(gT ds k p).size<=12
 | 0,p,h=>h
 | k+1,p,h=>by
  rw [gT];split
  .rename_i b;have:=p7 a b;exact rE a k _ (by rw [Np,dW];omega)
  .exact h
theorem KQ{ed en eh:Bool}{ds:List Dc}{ns:List (List T)}{hs:List (List T)}(hl:ds.length<=100)(a:∀d∈ds,d.nm.size<=12):
  Or (.call 30) [AV.agg [AV.t (T.ad 3 ed (aI ds)),AV.t (T.ad 5 en ns),AV.t (T.ad 1 eh hs)]] []=some [T.str (cM ds)]:=by
 have:=I1 (ed:=ed) (en:=en) (eh:=eh) (ns:=ns) (hs:=hs) hl a 11 us (by rw [dW];omega) (by rw [dW];omega);refine ah ?_;rw [Ge];exact this
theorem JG{e:Bool}{l:List Int}(hl:l.length<=1000):∀(r:List Int) (i:Nat),l.drop i=r->
  ∃z:Int,Or ff [ad e l,AV.fn 21 [] [],I (l.length:Int),I (i:Int)] []=some [ti z]/\decide (z>=0)=r.any aF:=by
 intro r;induction r with
 | nil=>
  intro i g;have a:¬(i:Int) < (l.length:Int):=by have:=bx g;omega
  refine⟨-1,ah ?_,by simp⟩;rw [vR];simp only [aj,↓reduceIte,Int.reduceBEq,Int.reduceEq,a]
 | cons d r h=>
  intro i g;obtain⟨c,n,f⟩:=bz g;have a:(i:Int) < (l.length:Int):=by omega
  have h0: 0<=(i:Int):=by omega
  have k:=gX d;cases b:aF d with
  | true=>rw [b] at k;refine⟨(i:Int),ah ?_,by simp [b]⟩;rw [vR];simp only [aj,↓reduceIte,Int.reduceBEq,Int.reduceEq,a,h0,and_self,aD,bC c,k]
  | false=>rw [b] at k;obtain⟨z,j,m⟩:=h (i+1) f;refine⟨z,ah ?_,by rw [m];simp [b]⟩;rw [vR];simp only [aj,↓reduceIte,Int.reduceBEq,Int.reduceEq,a,h0,and_self,aD,bC c,k,next i (by omega)];exact j
theorem JJ{e:Bool}{ds:List Dc}(hl:ds.length<=1000):∀(r:List Dc) (i:Nat),ds.drop i=r->
  ∃z:Int,Or fX [AV.t (T.ad 3 e (aI ds)),AV.fn 56 [] [],I (ds.length:Int),I (i:Int)] []=some [ti z]/\decide (z>=0)=r.any λd=>aF d.so:=by
 intro r;induction r with
 | nil=>
  intro i g;have a:¬(i:Int) < (ds.length:Int):=by have:=bx g;omega
  refine⟨-1,ah ?_,by simp⟩;rw [vW];simp only [aj,↓reduceIte,Int.reduceBEq,Int.reduceEq,a]
 | cons d r j=>
  intro i g;obtain⟨c,n,h⟩:=bz g;have a:(i:Int) < (ds.length:Int):=by omega
  have h0: 0<=(i:Int):=by omega
  have f:=gX d.so;have k:Or (.call 56) [AV.agg [AV.t (T.str d.nm),AV.t (T.ad 1 d.ea (enc d.ar)),I d.so]] []=some [tb (aF d.so)]:=by refine ah ?_;rw [Gw];simp only [aj,↓reduceIte,Int.reduceBEq,Int.reduceEq,f]
  cases b:aF d.so with
  | true=>rw [b] at k;refine⟨(i:Int),ah ?_,by simp [b]⟩;rw [vW];simp only [aj,↓reduceIte,Int.reduceBEq,Int.reduceEq,a,h0,and_self,ca,dv c,k]
  | false=>rw [b] at k;obtain⟨z,l,m⟩:=j (i+1) h;refine⟨z,ah ?_,by rw [m];simp [b]⟩;rw [vW];simp only [aj,↓reduceIte,Int.reduceBEq,Int.reduceEq,a,h0,and_self,ca,dv c,k,next i (by omega)];exact l
def ot(ds:List Dc)(ss:List Int):Bool:=ss.any aF || ds.any λd=>aF d.so
theorem K7{e:Bool}{l:List Int}(hl:l.length<=1000):Or (.call 48) [ad e l,AV.fn 21 [] []] []=some [tb (l.any aF)]:=by
 obtain⟨z,b,c⟩:=JG (e:=e) hl l 0 rfl;have a:Or (.call 86) [ad e l,AV.fn 21 [] []] []=some [ti z]:=by refine ah ?_;rw [Hi];simp only [aD];exact b
 refine ah ?_;rw [Gn];simp only [aj,↓reduceIte,Int.reduceBEq,Int.reduceEq,a,c]
theorem KO{ed en eh es:Bool}{ds:List Dc}{ns:List (List T)}{hs:List (List T)}{ss:List Int}(hl:ds.length<=100)(c:ss.length<=1000):
  Or (.call 28) [AV.agg [AV.t (T.ad 3 ed (aI ds)),AV.t (T.ad 5 en ns),AV.t (T.ad 1 eh hs)],ad es ss] []=some [tb (ot ds ss)]:=by
 have a:=K7 (e:=es) c;obtain⟨z,h,i⟩:=JJ (e:=ed) (ds:=ds) (by omega) ds 0 rfl;have g:Or (.call 89) [AV.t (T.ad 3 ed (aI ds)),AV.fn 56 [] []] []=some [ti z]:=by refine ah ?_;rw [Hn];simp only [ca];exact h
 have f:Or (.call 55) [AV.t (T.ad 3 ed (aI ds)),AV.fn 56 [] []] []=some [tb (ds.any λd=>aF d.so)]:=by refine ah ?_;rw [Gu];simp only [aj,↓reduceIte,Int.reduceBEq,Int.reduceEq,g,i]
 unfold ot;refine ah ?_;rw [Gd];cases b:ss.any aF with
 | true=>rw [b] at a;simp only [bo,aj,↓reduceIte,Int.reduceBEq,Int.reduceEq,a,M8];rfl
 | false=>rw [b] at a;simp only [aj,↓reduceIte,Int.reduceBEq,Int.reduceEq,a,Nb,f];rfl
def dz(p:ByteArray)(k:Nat)(d:Dc):Nat->Nat->List Dc
 | _,0=> []
 | b,n+1=>⟨p++it (k:Int)++us++it (b:Int),d.ea,d.ar,1⟩::dz p k d (b+1) n
def eS(p:ByteArray)(k:Nat):Nat->Nat->Bool->Bool
 | _,0,ok=>ok
 | b,n+1,ok=>eS p k (b+1) n (ok && decide (((p++it (k:Int)++us++it (b:Int)).size:Int)<=12))
def bS(p:ByteArray):Nat->List Dc->List Dc
 | _,[]=> []
 | k,d::r=>(if aF d.so then dz p k d 0 (d.so - 10).toNat else [d])++bS p (k+1) r
def cD(p:ByteArray):Nat->List Dc->Bool->Bool
 | _,[],ok=>ok
 | k,d::r,ok=>cD p (k+1) r (if aF d.so then eS p k 0 (d.so - 10).toNat ok else ok)
theorem qt(p:ByteArray)(k:Nat)(d:Dc):∀(n b:Nat),(dz p k d b n).length=n
 | 0,_=>rfl
 | n+1,b=>by rw [dz,Nf,qt p k d n]
theorem mU(e:Bool)(l:List Int)(a:e=true->l= [])(hl:l.length<=1000000):∃x,Or (.call 25) [ad e l] []=some [x]/\x.au 1=some (e,enc l):=by
 refine⟨_,DQ e l a hl, ?_⟩;cases e with
 | true=>rw [a rfl];rfl
 | false=>rfl
theorem fZ(v x:Bool):(bif v then x else false)= (v && x):=by cases v <;> rfl
def nL(d:Dc):List T:= [T.str d.nm,T.ad 1 d.ea (enc d.ar),ti d.so]
theorem Cu{p:ByteArray}{ed:Bool}{ds:List Dc}{k w:Nat}{d:Dc}(v:p.size<=100)(u:k<=100)(g:d.ea=true->d.ar= [])(s:d.ar.length<=1000)(y:w<=100){r:List T}:∀(n b:Nat) (acc:List Dc) (ok:Bool),b+n=w->acc.length+n<=100000->
  Or kc [AV.t (T.str p),o0,B (eS p k b n ok),AV.t (T.ad 3 ed (aI ds)),I (ds.length:Int),I ((k+1:Nat):Int)] [ab.sl false 3 false ((acc++dz p k d b n).map nL)]=some r->
  Or l5 [AV.t (T.str p),o0,B ok,I (k:Int),r1,AV.t (T.ad 3 ed (aI ds)),I (ds.length:Int),I (k:Int),I (w:Int),I (b:Int)] [ab.sl false 3 false (acc.map nL),ab.box [AV.t (T.str d.nm),ad d.ea d.ar,I d.so]]=some r:=by
 have e:dX (k:Int):=⟨by omega,by omega⟩;have z:=fq e;intro n;induction n with
 | zero=>
  intro b acc ok m hl a;have f:¬(b:Int) < (w:Int):=by omega
  rw [dz,Nz,eS] at a;refine ah ?_;rw [zP];simp only [aj,↓reduceIte,Int.reduceBEq,Int.reduceEq,f,next k (by omega)];exact a
 | succ n q=>
  intro b acc ok m hl a;have f:(b:Int) < (w:Int):=by omega
  have c:dX (b:Int):=⟨by omega,by omega⟩;have A:=fq c;have j:p.size+ (it (k:Int)).size<=4294967296:=by omega
  have l:(p++it (k:Int)).size+1<=4294967296:=by rw [Np];omega
  have c3:(p++it (k:Int)++us).size+ (it (b:Int)).size<=4294967296:=by simp only [Np,dW];omega
  obtain⟨x,i,o⟩:=mU d.ea d.ar g (by omega);rw [dz,eS] at a;have h:=q (b+1) (acc++ [⟨p++it (k:Int)++us++it (b:Int),d.ea,d.ar,1⟩]) _ (by omega) (by simp;omega) (by simpa only [Nx,ND] using a);rw [Pf] at h;refine ah ?_;rw [zP];simp only [aj,↓reduceIte,Int.reduceBEq,Int.reduceEq,f,gY e,gY c,j,l,c3,i,o,N3,Nk,cS (show acc.length+1<=1000000 by omega),next b (by omega),fZ];exact h
theorem Ct{p:ByteArray}{ed:Bool}{ds:List Dc}(q:p.size<=100)(hl:ds.length<=100)(e:∀d∈ds,d.ea=true->d.ar= [])(f:∀d∈ds,d.ar.length<=1000):∀(r:List Dc) (k:Nat) (acc:List Dc) (ok:Bool),ds.drop k=r->k<=ds.length->acc.length<=100 * k->
  Or kc [AV.t (T.str p),o0,B ok,AV.t (T.ad 3 ed (aI ds)),I (ds.length:Int),I (k:Int)] [ab.sl false 3 false (acc.map nL)]=some [T.ad 3 false ((acc++bS p k r).map nL),tb (cD p k r ok && decide ((((acc++bS p k r).length:Nat):Int)<=30))]:=by
 intro r;induction r with
 | nil=>
  intro k acc ok g o n;have c:¬(k:Int) < (ds.length:Int):=by have:=bx g;omega
  rw [bS,cD,Nz];refine ah ?_;rw [vH];simp only [aj,↓reduceIte,Int.reduceBEq,Int.reduceEq,c,N3,fZ]
 | cons d r l=>
  intro k acc ok g o n;obtain⟨h,z,j⟩:=bz g;have hm:=Nh h;have c:(k:Int) < (ds.length:Int):=by omega
  have h0: 0<=(k:Int):=by omega
  have a:=gX d.so;obtain⟨x,m,s⟩:=mU d.ea d.ar (e d hm) (by have:=f d hm;omega);rw [bS,cD];cases i:aF d.so with
  | false=>rw [i] at a;have b:=l (k+1) (acc++ [d]) ok j (by omega) (by simp;omega);simp only [Nx,ND] at b;rw [Pf] at b;simp only [NA,↓reduceIte,ND];refine ah ?_;rw [vH];simp only [aj,↓reduceIte,Int.reduceBEq,Int.reduceEq,c,h0,and_self,ca,dv h,a,Nb,m,s,N3,Nk,cS (show acc.length+1<=1000000 by omega),next k (by omega)];exact b
  | true=>
   rw [i] at a;have y:=e8 i;have b:=l (k+1) (acc++dz p k d 0 (d.so - 10).toNat) (eS p k 0 (d.so - 10).toNat ok) j (by omega) (by simp [qt];omega);have u:=Cu (p:=p) (ed:=ed) (ds:=ds) (k:=k) (w:=(d.so - 10).toNat) (d:=d) q (by omega) (e d hm) (f d hm) (by omega) (d.so - 10).toNat 0 acc ok (by omega) (by omega) b;have v:i64.wrap (d.so - 10)= ((d.so - 10).toNat:Int):=by rw [wr (by omega)];omega
   simp only [↓reduceIte];rw [<-Nx];refine ah ?_;rw [vH];simp only [aj,↓reduceIte,Int.reduceBEq,Int.reduceEq,c,h0,and_self,ca,dv h,a,M8,v];exact u
theorem I2{p:ByteArray}{ed:Bool}{ds:List Dc}(j:p.size<=100)(hl:ds.length<=100)(b:∀d∈ds,d.ea=true->d.ar= [])(c:∀d∈ds,d.ar.length<=1000):∃x,Or kc [AV.t (T.str p),AV.t (T.af true),B true,AV.t (T.ad 3 ed (aI ds)),I (ds.length:Int),I 0] []=some [x,tb (cD p 0 ds true && decide ((((bS p 0 ds).length:Nat):Int)<=30))]/\x.au 3=some ((bS p 0 ds).isEmpty,aI (bS p 0 ds)):=by
 cases a:ds with
 | nil=>refine⟨T.af true,ah ?_,rfl⟩;rw [vG];simp only [aj,↓reduceIte,Int.reduceBEq,Int.reduceEq,Nw,NK,NO,decide_false];rfl
 | cons d r=>
  have hm:d∈ds:=by rw [a];exact M3
  have q:(0:Int) < (((d::r).length:Nat):Int):=by simp
  have h0:(0:Int)<=0:=by omega
  have o:(aI (d::r))[(0:Int).toNat]? =some [T.str d.nm,T.ad 1 d.ea (enc d.ar),ti d.so]:=rfl;have e:=gX d.so;have y:i64.wrap (0+1)= ((1:Nat):Int):=by decide
  obtain⟨x,i,u⟩:=mU d.ea d.ar (b d hm) (by have:=c d hm;omega);rw [bS,cD];cases l:aF d.so with
  | false=>rw [l] at e;have f:=Ct (p:=p) (ed:=ed) (ds:=ds) j hl b c r 1 [d] true (by rw [a];rfl) (by rw [a];simp) (by simp);rw [a] at f;simp only [NA,↓reduceIte,ND];refine⟨T.ad 3 false (([d] ++bS p (0+1) r).map nL),ah ?_,rfl⟩;rw [vG];simp only [aj,↓reduceIte,Int.reduceBEq,Int.reduceEq,q,h0,and_self,ca,o,e,Nb,i,u,y];exact f
  | true=>
   rw [l] at e;have F:=e8 l;obtain⟨n,C⟩:∃n,(d.so - 10).toNat=n+1:=⟨(d.so - 10).toNat - 1,by omega⟩;have h:dX ((0:Nat):Int):=⟨by omega,by omega⟩;have m:=fq h;have z:p.size+ (it 0).size<=4294967296:=by have:(it 0).size<=21:=m;omega
   have A:(p++it 0).size+1<=4294967296:=by have:(it 0).size<=21:=m;rw [Np];omega
   have c3:(p++it 0++us).size+ (it 0).size<=4294967296:=by have:(it 0).size<=21:=m;simp only [Np,dW];omega
   have v:Or (.call 59) [I 0] []=some [T.str (it 0)]:=gY h;have f:=Ct (p:=p) (ed:=ed) (ds:=ds) j hl b c r 1 (dz p 0 d 0 (n+1)) (eS p 0 0 (n+1) true) (by rw [a];rfl) (by rw [a];simp) (by rw [qt];omega);have D:=Cu (p:=p) (ed:=ed) (ds:=ds) (k:=0) (w:=n+1) (d:=d) j (by omega) (b d hm) (c d hm) (by omega) n 1 [⟨p++it 0++us++it 0,d.ea,d.ar,1⟩] (true && decide (((p++it 0++us++it 0).size:Int)<=12)) (by omega) (by simp;omega) f;have E:i64.wrap (d.so - 10)= ((n+1:Nat):Int):=by rw [wr (by omega)];omega
   have s:(0:Int) < ((n+1:Nat):Int):=by omega
   have g:Or l5 [AV.t (T.str p),AV.t (T.af true),B true,I 0,r0,AV.t (T.ad 3 ed (aI ds)),I (ds.length:Int),I 0,I ((n+1:Nat):Int),I 0] [ab.box [AV.t (T.str d.nm),ad d.ea d.ar,I d.so]]=some [T.ad 3 false ((dz p 0 d 0 (n+1)++bS p 1 r).map nL),tb (cD p 1 r (eS p 0 0 (n+1) true) && decide ((((dz p 0 d 0 (n+1)++bS p 1 r).length:Nat):Int)<=30))]:=by refine ah ?_;rw [Gg];simp only [aj,↓reduceIte,Int.reduceBEq,Int.reduceEq,s,v,z,A,c3,i,u,y,fZ];exact D
   rw [a] at g;simp only [↓reduceIte,C];refine⟨T.ad 3 false ((dz p 0 d 0 (n+1)++bS p (0+1) r).map nL),ah ?_,rfl⟩;rw [vG];simp only [aj,↓reduceIte,Int.reduceBEq,Int.reduceEq,q,h0,and_self,ca,o,e,M8,E];exact g
theorem KR{p:ByteArray}{ed en eh:Bool}{ds:List Dc}{ns hs:List (List T)}(f:p.size<=100)(hl:ds.length<=100)(a:∀d∈ds,d.ea=true->d.ar= [])(b:∀d∈ds,d.ar.length<=1000):
  ∃x,Or (.call 31) [AV.agg [AV.t (T.ad 3 ed (aI ds)),AV.t (T.ad 5 en ns),AV.t (T.ad 1 eh hs)],AV.t (T.str p)] []=some [x,tb (cD p 0 ds true && decide ((((bS p 0 ds).length:Nat):Int)<=30))]/\x.au 3=some ((bS p 0 ds).isEmpty,aI (bS p 0 ds)):=by
 obtain⟨x,c,e⟩:=I2 (p:=p) (ed:=ed) f hl a b;refine⟨x,ah ?_,e⟩;rw [Gf];simp only [ca];exact c
open Go Go.Aev Go.IntKind
def fJ(c:Cx)(t:Tr)(M:Mk)(x:Nd)(s:Int):Tr×Mk:=
 if aF s then(⟨t.bits++ [(eG c t M x s).1],t.to++ [0]⟩,(eG c t M x s).2)
 else(⟨t.bits++ [[]],t.to++ [(fc t M x).1]⟩,(fc t M x).2)
def ft(c:Cx):List Nd->List Int->Tr->Mk->Tr×Mk
 | x::r,s::q,t,M=>if 800 < (fJ c t M x s).2.N.length then fJ c t M x s else ft c r q (fJ c t M x s).1 (fJ c t M x s).2
 | _,_,t,M=>(t,M)
def qZ:List T:= [T.af true,T.af true,T.af true,ti 10,ti 0]
def lV(c:Cx)(q:Tr×Mk):List Nd×List Int:=hJ q.2.N (c.hs.map (bm q.1))
def jQ(c:Cx)(dl:List Dc)(ok:Bool)(q:Tr×Mk):List T:=
 if ok=false\/800 < q.2.N.length then qZ
 else if 200 < (lV c q).1.length then qZ
 else [T.ad 3 dl.isEmpty (aI dl),T.ad 5 (lV c q).1.isEmpty (aV (lV c q).1),T.ad 1 (lV c q).2.isEmpty (enc (lV c q).2),ti 0,ti 0]
theorem AU(l:List (List Int))(b:List Int):bg l++ [[LO b]]=bg (l++ [b]):=by simp [bg]
theorem Iz(w:List Int)(h: 1<=w.length):T.ad 1 w.isEmpty (enc w)=LO w:=by cases w with
 | nil=>simp at h
 | cons=>rfl
theorem ye{a:Type}(l:List a)(x:a):(l++ [x]).isEmpty=false:=by cases l <;> rfl
theorem cy.word{c:Cx}{t:Tr}{M f:Mk}{i n:Nat}{s:Int}{w:List Int}(h:cy c t M i)(hs:c.ss[i]? =some s)(r:aF s=true)(u:Up M f n)(hl:(w.length:Int)=s - 10)(o:∀y∈w,In f y):cy c ⟨t.bits++ [w],t.to++ [0]⟩ f (i+1):=by
 have m:=h.up u;refine⟨u.ok,by simp [h.bl],by simp [h.tl],λk s' q a d=> ?_,λk s' q a d=> ?_⟩
 .by_cases e:k=i
  .subst e;rw [hs] at a;simp only [M1] at a;subst a;exact⟨w,by rw [NI (by rw [h.bl];exact Ns _),h.bl,OE];rfl,hl,o⟩
  .obtain⟨b,g,j,l⟩:=m.w k s' (by omega) a d;exact⟨b,by rw [Nu (by rw [h.bl];omega)];exact g,j,l⟩
 .by_cases e:k=i
  .subst e;rw [hs] at a;simp only [M1] at a;subst a;rw [r] at d;cases d
  .obtain⟨g,v,j,l⟩:=m.p k s' (by omega) a d;exact⟨by rw [Nu (by rw [h.bl];omega)];exact g,v,by rw [Nu (by rw [h.tl];omega)];exact j,l⟩
theorem cy.plain{c:Cx}{t:Tr}{M f:Mk}{i n:Nat}{s v:Int}(h:cy c t M i)(hs:c.ss[i]? =some s)(r:aF s=false)(u:Up M f n)(o:In f v):cy c ⟨t.bits++ [[]],t.to++ [v]⟩ f (i+1):=by
 have m:=h.up u;refine⟨u.ok,by simp [h.bl],by simp [h.tl],λk s' q a d=> ?_,λk s' q a d=> ?_⟩
 .by_cases e:k=i
  .subst e;rw [hs] at a;simp only [M1] at a;subst a;rw [r] at d;cases d
  .obtain⟨b,g,j,l⟩:=m.w k s' (by omega) a d;exact⟨b,by rw [Nu (by rw [h.bl];omega)];exact g,j,l⟩
 .by_cases e:k=i
  .subst e;exact⟨by rw [NI (by rw [h.bl];exact Ns _),h.bl,OE];rfl,v,by rw [NI (by rw [h.tl];exact Ns _),h.tl,OE];rfl,o⟩
  .obtain⟨g,x,j,l⟩:=m.p k s' (by omega) a d;exact⟨by rw [Nu (by rw [h.bl];omega)];exact g,x,by rw [Nu (by rw [h.tl];omega)];exact j,l⟩
structure nc (c:Cx):Prop where
 sl:c.ss.length=c.ns.length
 nl:c.ns.length<=200
 dl:c.ds.length<=30
 hl:c.hs.length<=200
 ds:∀d∈c.ds,d.nm.size<=12
 nd:∀(i:Nat) (x:Nd) (s:Int),c.ns[i]? =some x->c.ss[i]? =some s->kR c i x s
 ho:∀k∈c.hs,0<=k/\c.ss[k.toNat]? =some 1
theorem yl{c:Cx}(ok:nc c){t:Tr}{M:Mk}{i:Nat}{x:Nd}{s:Int}(d:c.ns[i]? =some x)(hs:c.ss[i]? =some s)(a:cy c t M i)(g:c.p.size<=100)(f:M.N.length<=40000):
  cy c (fJ c t M x s).1 (fJ c t M x s).2 (i+1)/\Up M (fJ c t M x s).2 1000:=by
 unfold fJ;cases b:aF s with
 | true=>obtain⟨_,u,e,hl⟩:=EI d hs b (ok.nd i x s d hs) a (by have:=ok.dl;omega) g f;exact⟨a.word hs b u hl e,u⟩
 | false=>obtain⟨_,u,e⟩:=C8 d b (ok.nd i x s d hs) a f;exact⟨a.plain hs b u e,u⟩
abbrev Fy(c:Cx):ab:=ab.box [AV.t (T.ad 3 c.ed (aI c.ds)),AV.t (T.ad 5 c.en (aV c.ns)),AV.t (T.ad 1 c.eh (enc c.hs))]
abbrev nb:ab:=ab.box [I 0,I 0]
abbrev Et(c:Cx):ab:=ab.box [AV.ref (Id.c 4) 0,AV.t (T.ad 3 c.ed (aI c.ds)),AV.t (T.ad 5 c.en (aV c.ns)),AV.t (T.ad 1 c.eh (enc c.hs)),AV.t (T.str c.p),AV.t (T.ad 1 c.es (enc c.ss)),AV.own (Id.c 5),AV.own (Id.c 6)]
theorem JL{c:Cx}{t:Tr}{M:Mk}{dl:List Dc}{n:Nat}(ok:nc c)(H:n=c.ns.length)(p:cy c t M n)(G:M.N.length<=800):∀(f:List Int) (j:Nat) (acc:List Int),c.hs.drop j=f->j<=c.hs.length->acc.length=j->acc++f.map (bm t)=c.hs.map (bm t)->
  Or oF [AV.ref (Id.c 0) 0,AV.ref (Id.c 1) 0,AV.ref (Id.c 2) 0,AV.ref (Id.c 3) 0,ad c.eh c.hs,I (c.hs.length:Int),I (j:Int)] [cH,nb,Et c,ab.box [AV.t (T.ad 3 dl.isEmpty (aI dl)),AV.own (Id.c 7),AV.own (Id.c 8)],ab.box [AV.own (Id.c 7),AV.own (Id.c 9)],ab.sl false 1 t.bits.isEmpty (bg t.bits),ab.sl false 1 t.to.isEmpty (enc t.to),ab.rows M.N.isEmpty 5 1 1 M.N.length (rows M.N),ab.sl false 1 acc.isEmpty (enc acc),ab.mp false [Ck.s] (Ck.i .i64) (cb M.K)]=some (jQ c dl true (t,M)):=by
 have l:∀k∈c.hs,0<=k/\t.to[k.toNat]? =some (bm t k)/\In M (bm t k):=λk h=>by obtain⟨b,a⟩:=ok.ho k h;have E:k.toNat < c.ss.length:=(M5.1 a).1;have r:KW c n k 1:=⟨b,by have:=ok.sl;omega,a⟩;exact⟨b,(r.plain p tA).2⟩
 intro f;induction f with
 | nil=>
  intro j acc g A d e;have b:¬(j:Int) < (c.hs.length:Int):=by have:=bx g;omega
  rw [Oe,Nz] at e;have v:=K5 (N:=M.N) (eh:=acc.isEmpty) (ed:=dl.isEmpty) (hold:=acc) (ds:=aI dl) (by omega) (by have:=ok.hl;omega) (λx B=>by obtain⟨i,z⟩:=Oi B;exact p.ok.kl i x z) p.ok.ks (λk h=>by
   rw [e] at h;obtain⟨D,hm,rfl⟩:=NG.1 h;exact(l D hm).2.2)
  unfold jQ lV;rw [<-e];refine ah ?_;rw [AO];simp only [aj,↓reduceIte,Int.reduceBEq,Int.reduceEq,b,v,Iy,cB];have m:¬(true=false\/800 < M.N.length):=by simp;omega
  rw [if_neg m];by_cases a: 200 < (hJ M.N acc).1.length
  .have o:((aV (hJ M.N acc).1).length:Int) > 200:=by rw [cK];omega
   rw [if_pos a];simp only [aj,↓reduceIte,Int.reduceBEq,Int.reduceEq,o,decide_true];rfl
  .have o:¬((aV (hJ M.N acc).1).length:Int) > 200:=by rw [cK];omega
   rw [if_neg a];simp only [aj,↓reduceIte,Int.reduceBEq,Int.reduceEq,o,decide_false]
 | cons k f C=>
  intro j acc g A d e;obtain⟨q,F,y⟩:=bz g;have b:(j:Int) < (c.hs.length:Int):=by omega
  have h0: 0<=(j:Int):=by omega
  obtain⟨J,w,_⟩:=l k (Nh q);have a: 0<=k/\k < (t.to.length:Int):=by have:=(M5.1 w).1;omega
  have u:=C (j+1) (acc++ [bm t k]) y (by omega) (by simp [d]) (by rw [<-e];simp);rw [ye] at u;refine ah ?_;rw [AO];simp only [aj,↓reduceIte,Int.reduceBEq,Int.reduceEq,b,h0,and_self,aD,bC q,a,eO w,Nk,cS (show acc.length+1<=1000000 by have:=ok.hl;omega),next j (by have:=ok.hl;omega),ez];exact u
abbrev M9(c:Cx)(t:Tr)(M:Mk):List ab:= [Fy c,cH,nb,Et c,ab.box [AV.own (Id.c 7),AV.own (Id.c 8)],ab.sl false 1 t.bits.isEmpty (bg t.bits),ab.sl false 1 t.to.isEmpty (enc t.to),ab.rows M.N.isEmpty 5 1 1 M.N.length (rows M.N),ab.mp false [Ck.s] (Ck.i .i64) (cb M.K)]
theorem JM{c:Cx}{dl:List Dc}{okb:Bool}(ok:nc c)(F:c.p.size<=100):∀(rn:List Nd) (rs:List Int) (i:Nat) (t:Tr) (M:Mk),c.ns.drop i=rn->c.ss.drop i=rs->i<=c.ns.length->cy c t M i->M.N.length<=800->
  Or qg [r0,r1,AV.ref (Id.c 2) 0,ad c.es c.ss,AV.t (T.ad 3 dl.isEmpty (aI dl)),B okb,AV.ref (Id.c 3) 0,I (c.ns.length:Int),I (i:Int)] (M9 c t M)=some (jQ c dl okb (ft c rn rs t M)):=by
 intro rn;induction rn with
 | nil=>
  intro rs i t M o w K f A;have k:¬(i:Int) < (c.ns.length:Int):=by have:=bx o;omega
  have D:i=c.ns.length:=by have:=bx o;omega
  have a:¬(M.N.length:Int) > 800:=by omega
  have y:ft c [] rs t M= (t,M):=by simp [ft]
  rw [y];cases okb with
  | false=>refine ah ?_;rw [o6];simp only [aj,↓reduceIte,Int.reduceBEq,Int.reduceEq,k,Nb];rfl
  | true=>have m:=JL (dl:=dl) ok D f A c.hs 0 [] rfl (OY _) rfl rfl;refine ah ?_;rw [o6];simp only [aj,↓reduceIte,Int.reduceBEq,Int.reduceEq,k,M8,aQ,a,decide_false,aD];exact m
 | cons x rn L=>
  intro rs i t M o w K f A;obtain⟨n,P,H⟩:=bz o;cases rs with
  | nil=>exact absurd (bx w) (by have:=ok.sl;omega)
  | cons s rs=>
   obtain⟨g,Q,J⟩:=bz w;have k:(i:Int) < (c.ns.length:Int):=by omega
   have q: 0<=(i:Int)/\(i:Int) < (c.ss.length:Int):=by omega
   have e:=gX s;obtain⟨eT,iW⟩:=yl ok n g f F (by omega);have d:=λa=>L rs (i+1) _ _ H J (by omega) eT a;have G:=next i (by have:=ok.nl;omega);rw [ft];cases l:aF s with
   | true=>
    rw [l] at e;obtain⟨r,u,C,hl⟩:=EI n g l (ok.nd i x s n g) f (by have:=ok.dl;omega) F (by omega);have O:=e8 l;have es:fJ c t M x s= (⟨t.bits++ [(eG c t M x s).1],t.to++ [0]⟩,(eG c t M x s).2):=by unfold fJ;rw [l];rfl
    rw [es] at d eT⊢;dsimp only at d eT⊢;have h:bp 24 (t.bits.length+1)=some ():=cS (by have:=f.bl;have:=ok.nl;omega);have j:bp 8 (t.to.length+1)=some ():=cS (by have:=f.tl;have:=ok.nl;omega);have E:=Iz (eG c t M x s).1 (by omega);have y: [T.int i64 0]= [ti 0]:=rfl;by_cases a: 800 < (eG c t M x s).2.N.length
    .have b:((eG c t M x s).2.N.length:Int) > 800:=by omega
     rw [if_pos a];have er:jQ c dl okb (⟨t.bits++ [(eG c t M x s).1],t.to++ [0]⟩,(eG c t M x s).2)=qZ:=by unfold jQ;rw [if_pos (.inr a)]
     rw [er];refine ah ?_;rw [o6];simp (maxSteps:=1000000) only [aj,↓reduceIte,Int.reduceBEq,Int.reduceEq,k,q,and_self,aD,bC g,e,r,aU,aT,M6,aS,aQ,cU,cV,cB,mo,Nk,h,j,b,decide_true];cases okb <;> rfl
    .have b:¬((eG c t M x s).2.N.length:Int) > 800:=by omega
     rw [if_neg a];have m:=d (by omega);simp only [M9,ye] at m;refine ah ?_;rw [o6];simp (maxSteps:=1000000) only [aj,↓reduceIte,Int.reduceBEq,Int.reduceEq,k,q,and_self,aD,bC g,e,r,aU,aT,M6,aS,aQ,cU,cV,cB,mo,Nk,h,j,b,decide_false,E,AU,ez,G];exact m
   | false=>
    rw [l] at e;obtain⟨v,u,C⟩:=C8 n l (ok.nd i x s n g) f (by omega);have es:fJ c t M x s= (⟨t.bits++ [[]],t.to++ [(fc t M x).1]⟩,(fc t M x).2):=by unfold fJ;rw [l];rfl
    rw [es] at d eT⊢;dsimp only at d eT⊢;have h:bp 24 (t.bits.length+1)=some ():=cS (by have:=f.bl;have:=ok.nl;omega);have j:bp 8 (t.to.length+1)=some ():=cS (by have:=f.tl;have:=ok.nl;omega);by_cases a: 800 < (fc t M x).2.N.length
    .have b:((fc t M x).2.N.length:Int) > 800:=by omega
     rw [if_pos a];have er:jQ c dl okb (⟨t.bits++ [[]],t.to++ [(fc t M x).1]⟩,(fc t M x).2)=qZ:=by unfold jQ;rw [if_pos (.inr a)]
     rw [er];refine ah ?_;rw [o6];simp (maxSteps:=1000000) only [aj,↓reduceIte,Int.reduceBEq,Int.reduceEq,k,q,and_self,aD,bC g,e,v,aU,aT,M6,aS,aQ,cU,cV,cB,mo,Nk,h,j,b,decide_true];cases okb <;> rfl
    .have b:¬((fc t M x).2.N.length:Int) > 800:=by omega
     rw [if_neg a];have m:=d (by omega);simp only [M9,ye] at m;have z:bg t.bits++ [[T.af true]]=bg (t.bits++ [[]]):=AU t.bits [];refine ah ?_;rw [o6];simp (maxSteps:=1000000) only [aj,↓reduceIte,Int.reduceBEq,Int.reduceEq,k,q,and_self,aD,bC g,e,v,aU,aT,M6,aS,aQ,cU,cV,cB,mo,Nk,h,j,b,decide_false,z,ez,G];exact m
open Go Go.Aev Go.IntKind
structure As where
 ed:Bool
 ds:List Dc
 en:Bool
 ns:List Nd
 eh:Bool
 hs:List Int
abbrev AG(a:As):AV:=AV.agg [AV.t (T.ad 3 a.ed (aI a.ds)),AV.t (T.ad 5 a.en (aV a.ns)),AV.t (T.ad 1 a.eh (enc a.hs))]
abbrev gI(a:As):ab:=ab.box [AV.t (T.ad 3 a.ed (aI a.ds)),AV.t (T.ad 5 a.en (aV a.ns)),AV.t (T.ad 1 a.eh (enc a.hs))]
structure lX (a:As):Prop where
 d:∀d∈a.ds,d.ea=true->d.ar= []
 n:∀x∈a.ns,x.ek=true->x.ks= []
 h:a.eh=true->a.hs= []
theorem we(l:List Dc)(d:Dc):aI l++ [[T.str d.nm,T.ad 1 d.ea (enc d.ar),T.int .i64 d.so]]=aI (l++ [d]):=by simp [aI]
theorem AW(l:List Nd)(x:Nd):aV l++ [[T.int .i64 x.op,T.ad 1 x.ek (enc x.ks),T.int .i64 x.n,T.int .i64 x.d,T.str x.nm]]=aV (l++ [x]):=by simp [aV]
theorem IZ{e eh:Bool}{ns:List Nd}{hs:List Int}{dl:List (List T)}(hl:ns.length<=1000)(n:∀x∈ns,x.ek=true->x.ks= [])(f:∀x∈ns,x.ks.length<=1000):∀(r:List Nd) (i:Nat) (acc:List Nd),ns.drop i=r->i<=ns.length->acc.length=i->
  Or gB [r0,r1,AV.t (T.ad 5 e (aV ns)),I (ns.length:Int),I (i:Int)] [cH,ab.box [o2,o3,o4],ab.sl false 3 false dl,ab.sl false 5 false (aV acc),ab.sl false 1 eh (enc hs)]=some [T.ad 3 false dl,T.ad 5 false (aV (acc++r)),T.ad 1 eh (enc hs)]/\
  Or gB [r0,r1,AV.t (T.ad 5 e (aV ns)),I (ns.length:Int),I (i:Int)] [cH,ab.box [AV.t (T.af true),o2,o3],ab.sl false 5 false (aV acc),ab.sl false 1 eh (enc hs)]=some [T.af true,T.ad 5 false (aV (acc++r)),T.ad 1 eh (enc hs)]:=by
 intro r;induction r with
 | nil=>
  intro i acc g m b;have a:¬(i:Int) < (ns.length:Int):=by have:=bx g;omega
  rw [Nz];refine⟨ah ?_,ah ?_⟩
  .rw [zO];simp only [aj,↓reduceIte,Int.reduceBEq,Int.reduceEq,a]
  .rw [zN];simp only [aj,↓reduceIte,Int.reduceBEq,Int.reduceEq,a]
 | cons x r o=>
  intro i acc g m b;obtain⟨d,p,l⟩:=bz g;have hm:=Nh d;have a:(i:Int) < (ns.length:Int):=by omega
  have h0: 0<=(i:Int):=by omega
  obtain⟨y,c,h⟩:=mU x.ek x.ks (n x hm) (by have:=f x hm;omega);obtain⟨j,k⟩:=o (i+1) (acc++ [x]) l (by omega) (by simp [b]);simp only [Nx,ND] at j k;refine⟨ah ?_,ah ?_⟩
  .rw [zO];simp only [aj,↓reduceIte,Int.reduceBEq,Int.reduceEq,a,h0,and_self,cK,ew d,c,h,Nk,cS (show acc.length+1<=1000000 by omega),next i (by omega),AW];exact j
  .rw [zN];simp only [aj,↓reduceIte,Int.reduceBEq,Int.reduceEq,a,h0,and_self,cK,ew d,c,h,Nk,cS (show acc.length+1<=1000000 by omega),next i (by omega),AW];exact k
theorem I0{e eh:Bool}{ns:List Nd}{hs:List Int}{dl:List (List T)}(hl:ns.length<=1000)(h:∀x∈ns,x.ek=true->x.ks= [])(b:∀x∈ns,x.ks.length<=1000):
  (∃z,Or gB [r0,r1,AV.t (T.ad 5 e (aV ns)),I (ns.length:Int),I 0] [cH,ab.box [o2,AV.t (T.af true),o3],ab.sl false 3 false dl,ab.sl false 1 eh (enc hs)]=some [T.ad 3 false dl,z,T.ad 1 eh (enc hs)]/\z.au 5=some (ns.isEmpty,aV ns))/\
  (∃z,Or gB [r0,r1,AV.t (T.ad 5 e (aV ns)),I (ns.length:Int),I 0] [cH,ab.box [AV.t (T.af true),AV.t (T.af true),o2],ab.sl false 1 eh (enc hs)]=some [T.af true,z,T.ad 1 eh (enc hs)]/\z.au 5=some (ns.isEmpty,aV ns)):=by
 cases a:ns with
 | nil=>
  refine⟨⟨T.af true,ah ?_,rfl⟩,⟨T.af true,ah ?_,rfl⟩⟩
  .rw [zM];simp only [aj,↓reduceIte,Int.reduceBEq,Int.reduceEq,Nw,NK,NO,decide_false]
  .rw [zL];simp only [aj,↓reduceIte,Int.reduceBEq,Int.reduceEq,Nw,NK,NO,decide_false]
 | cons x r=>
  have hm:x∈ns:=by rw [a];exact M3
  have g:(0:Int) < (((x::r).length:Nat):Int):=by simp
  have h0:(0:Int)<=0:=by omega
  have f:(aV (x::r))[(0:Int).toNat]? =some [ti x.op,T.ad 1 x.ek (enc x.ks),ti x.n,ti x.d,T.str x.nm]:=rfl;have j:i64.wrap (0+1)= ((1:Nat):Int):=by decide
  obtain⟨y,c,i⟩:=mU x.ek x.ks (h x hm) (by have:=b x hm;omega);obtain⟨k,l⟩:=IZ (e:=e) (eh:=eh) (ns:=ns) (hs:=hs) (dl:=dl) hl h b r 1 [x] (by rw [a];rfl) (by rw [a];simp) rfl;rw [a] at k l;refine⟨⟨T.ad 5 false (aV ([x] ++r)),ah ?_,rfl⟩,⟨T.ad 5 false (aV ([x] ++r)),ah ?_,rfl⟩⟩
  .rw [zM];simp only [aj,↓reduceIte,Int.reduceBEq,Int.reduceEq,g,h0,and_self,cK,f,c,i,j];exact k
  .rw [zL];simp only [aj,↓reduceIte,Int.reduceBEq,Int.reduceEq,g,h0,and_self,cK,f,c,i,j];exact l
theorem IY{a:As}{e eh:Bool}{hs:List Int}(hl:a.ds.length<=1000)(q:∀d∈a.ds,d.ea=true->d.ar= [])(k:∀d∈a.ds,d.ar.length<=1000){z:T}
  (l:Or gB [r0,r1,AV.t (T.ad 5 a.en (aV a.ns)),I (a.ns.length:Int),I 0] [cH,ab.box [o2,AV.t (T.af true),o3],ab.sl false 3 false (aI a.ds),ab.sl false 1 eh (enc hs)]=some [T.ad 3 false (aI a.ds),z,T.ad 1 eh (enc hs)]):∀(r:List Dc) (i:Nat) (acc:List Dc),a.ds.drop i=r->i<=a.ds.length->acc.length=i->acc++r=a.ds->
  Or l4 [r0,r1,AV.ref (Id.c 2) 0,AV.t (T.ad 3 e (aI a.ds)),I (a.ds.length:Int),I (i:Int)] [gI a,cH,ab.box [o3,AV.t (T.af true),o4],ab.sl false 3 false (aI acc),ab.sl false 1 eh (enc hs)]=some [T.ad 3 false (aI a.ds),z,T.ad 1 eh (enc hs)]:=by
 intro r;induction r with
 | nil=>
  intro i acc g o f b;have h:¬(i:Int) < (a.ds.length:Int):=by have:=bx g;omega
  rw [Nz] at b;rw [<-b] at l;refine ah ?_;rw [zK,<-b];rw [<-b] at h;simp only [aj,↓reduceIte,Int.reduceBEq,Int.reduceEq,h,cK];exact l
 | cons d r u=>
  intro i acc g o f b;obtain⟨j,v,n⟩:=bz g;have hm:=Nh j;have h:(i:Int) < (a.ds.length:Int):=by omega
  have h0: 0<=(i:Int):=by omega
  obtain⟨y,m,s⟩:=mU d.ea d.ar (q d hm) (by have:=k d hm;omega);have p:=u (i+1) (acc++ [d]) n (by omega) (by simp [f]) (by rw [<-b];simp);refine ah ?_;rw [zK];simp only [aj,↓reduceIte,Int.reduceBEq,Int.reduceEq,h,h0,and_self,ca,dv j,m,s,Nk,cS (show acc.length+1<=1000000 by omega),next i (by omega),we];exact p
theorem KP{a:As}(wf:lX a)(l:a.ds.length<=1000)(o:a.ns.length<=1000)(G:a.hs.length<=1000)(f:∀d∈a.ds,d.ar.length<=1000)(m:∀x∈a.ns,x.ks.length<=1000):
  ∃x y z,Or (.call 29) [AG a] []=some [x,y,z]/\x.au 3=some (a.ds.isEmpty,aI a.ds)/\y.au 5=some (a.ns.isEmpty,aV a.ns)/\z.au 1=some (a.eh,enc a.hs):=by
 obtain⟨v,g,p⟩:=mU a.eh a.hs wf.h (by omega);obtain⟨⟨q,B,C⟩,⟨s,D,E⟩⟩:=I0 (e:=a.en) (eh:=a.eh) (ns:=a.ns) (hs:=a.hs) (dl:=aI a.ds) o wf.n m;cases b:a.ds with
 | nil=>
  have i:Or l4 [r0,r1,AV.ref (Id.c 2) 0,AV.t (T.ad 3 a.ed (aI a.ds)),I (a.ds.length:Int),I 0] [gI a,cH,ab.box [AV.t (T.af true),AV.t (T.af true),o3],ab.sl false 1 a.eh (enc a.hs)]=some [T.af true,s,T.ad 1 a.eh (enc a.hs)]:=by refine ah ?_;rw [zJ,b];simp only [aj,↓reduceIte,Int.reduceBEq,Int.reduceEq,Nw,NK,NO,decide_false,cK];exact D
  refine⟨T.af true,s,T.ad 1 a.eh (enc a.hs),ah ?_,rfl,E,by rw [dP]⟩;rw [zI];simp only [aj,↓reduceIte,Int.reduceBEq,Int.reduceEq,g,p,ca];exact i
 | cons d r=>
  have hm:d∈a.ds:=by rw [b];exact M3
  have j:=IY (a:=a) (e:=a.ed) (eh:=a.eh) (hs:=a.hs) l wf.d f B r 1 [d] (by rw [b];rfl) (by rw [b];simp) rfl (by rw [b];rfl);have w:(0:Int) < (((d::r).length:Nat):Int):=by simp
  have h0:(0:Int)<=0:=by omega
  have u:(aI (d::r))[(0:Int).toNat]? =some [T.str d.nm,T.ad 1 d.ea (enc d.ar),ti d.so]:=rfl;have F:i64.wrap (0+1)= ((1:Nat):Int):=by decide
  obtain⟨y,k,A⟩:=mU d.ea d.ar (wf.d d hm) (by have:=f d hm;omega);have i:Or l4 [r0,r1,AV.ref (Id.c 2) 0,AV.t (T.ad 3 a.ed (aI a.ds)),I (a.ds.length:Int),I 0] [gI a,cH,ab.box [AV.t (T.af true),AV.t (T.af true),o3],ab.sl false 1 a.eh (enc a.hs)]=some [T.ad 3 false (aI a.ds),q,T.ad 1 a.eh (enc a.hs)]:=by refine ah ?_;rw [zJ,b];rw [b] at j;simp only [aj,↓reduceIte,Int.reduceBEq,Int.reduceEq,w,h0,and_self,ca,u,k,A,F];rw [<-b] at j⊢;exact j
  refine⟨T.ad 3 false (aI a.ds),q,T.ad 1 a.eh (enc a.hs),ah ?_,by rw [b];rfl,C,by rw [dP]⟩;rw [zI];simp only [aj,↓reduceIte,Int.reduceBEq,Int.reduceEq,g,p,ca];exact i
def jf(a:As)(es:Bool)(ss:List Int):Cx:=⟨a.ed,a.ds,a.en,a.ns,a.eh,a.hs,cM a.ds,es,ss⟩
def sO(a:As)(es:Bool)(ss:List Int):List T:=
 if ot a.ds ss then jQ (jf a es ss) (bS (cM a.ds) 0 a.ds) (cD (cM a.ds) 0 a.ds true && decide ((((bS (cM a.ds) 0 a.ds).length:Nat):Int)<=30)) (ft (jf a es ss) a.ns ss ⟨[],[]⟩ ⟨[],[]⟩)
 else [T.ad 3 a.ds.isEmpty (aI a.ds),T.ad 5 a.ns.isEmpty (aV a.ns),T.ad 1 a.eh (enc a.hs),ti 0,ti 0]
theorem s9{a:As}{es:Bool}{ss:List Int}(wf:lX a)(ok:nc (jf a es ss))(e:∀d∈a.ds,d.ar.length<=1000){x:T}(g:Or (.call 15) [AG a] []=some [x,ti 0,ti 0])(o:x.au 1=some (es,enc ss)):
  Or (.call 9) [AG a] []=some (sO a es ss):=by
 have D:a.ds.length<=30:=ok.dl;have F:a.ns.length<=200:=ok.nl;have E:a.hs.length<=200:=ok.hl;have m:ss.length=a.ns.length:=ok.sl;have f:∀d∈a.ds,d.nm.size<=12:=ok.ds;have b:=KO (ed:=a.ed) (en:=a.en) (eh:=a.eh) (es:=es) (ds:=a.ds) (ns:=aV a.ns) (hs:=enc a.hs) (ss:=ss) (by omega) (by omega);unfold sO;cases n:ot a.ds ss with
 | false=>
  rw [n] at b;obtain⟨H,I,J,q,v,w,z⟩:=KP wf (by omega) (by omega) (by omega) e (λx hm=>by
   obtain⟨i,j⟩:=Oi hm;have l:i < ss.length:=by rw [m];exact(M5.1 j).1
   have:=(ok.nd i x _ j (Nc l)).kl;omega)
  refine ah ?_;rw [e9];simp only [aj,↓reduceIte,Int.reduceBEq,Int.reduceEq,g,o,M8,b,Nb,q,v,w,z];rfl
 | true=>
  rw [n] at b;have r:=KQ (ed:=a.ed) (en:=a.en) (eh:=a.eh) (ns:=aV a.ns) (hs:=enc a.hs) (show a.ds.length<=100 by omega) f;have G:(cM a.ds).size<=12:=rE f 11 us (by rw [dW];omega);obtain⟨y,u,C⟩:=KR (p:=cM a.ds) (ed:=a.ed) (en:=a.en) (eh:=a.eh) (ds:=a.ds) (ns:=aV a.ns) (hs:=enc a.hs) (by omega) (by omega) wf.d e;have h0:cy (jf a es ss) ⟨[],[]⟩ ⟨[],[]⟩ 0:=⟨⟨λi x h=>(by simp at h),λi x h=>(by simp at h),λp h=>(by cases h),λi x h=>(by simp at h),λi x h=>(by simp at h)⟩,rfl,rfl,λk s h=>by omega,λk s h=>by omega⟩;have hl:=JM (dl:=bS (cM a.ds) 0 a.ds) (okb:=cD (cM a.ds) 0 a.ds true && decide ((((bS (cM a.ds) 0 a.ds).length:Nat):Int)<=30)) ok (show(cM a.ds).size<=100 by omega) a.ns ss 0 ⟨[],[]⟩ ⟨[],[]⟩ rfl rfl (OY _) h0 (by simp);have A:Or uS [r0,r1,AV.ref (Id.c 2) 0,ad es ss,AV.t (T.ad 3 (bS (cM a.ds) 0 a.ds).isEmpty (aI (bS (cM a.ds) 0 a.ds))),B (cD (cM a.ds) 0 a.ds true && decide ((((bS (cM a.ds) 0 a.ds).length:Nat):Int)<=30)),AV.ref (Id.c 3) 0,AV.ref (Id.c 3) 0,AV.ref (Id.c 4) 0] (M9 (jf a es ss) ⟨[],[]⟩ ⟨[],[]⟩)=some (jQ (jf a es ss) (bS (cM a.ds) 0 a.ds) (cD (cM a.ds) 0 a.ds true && decide ((((bS (cM a.ds) 0 a.ds).length:Nat):Int)<=30)) (ft (jf a es ss) a.ns ss ⟨[],[]⟩ ⟨[],[]⟩)):=by refine ah ?_;rw [HB];simp only [cK];exact hl
  simp only [↓reduceIte];refine ah ?_;rw [e9];simp only [aj,↓reduceIte,Int.reduceBEq,Int.reduceEq,g,o,M8,b,r,u,C];exact A
end Go.Aev.Gen
