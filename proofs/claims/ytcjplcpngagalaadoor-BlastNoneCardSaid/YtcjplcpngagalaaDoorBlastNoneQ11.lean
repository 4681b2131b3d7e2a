import Derived.Test.YtcjplcpngagalaaDoorBlastNoneQ10
import Derived.Lib.IndexBytes
set_option linter.all false
namespace Go.Aev.Gen
open Go Go.Aev Go.IntKind
def jF(k:Nat)(p:Nd×Bool):Row:=Row.mk k [ti p.1.op,T.ak,ti p.1.n,ti p.1.d,T.str p.1.nm] (cond p.2 none (some (p.1.ek,enc p.1.ks)))
def dK:Nat->List (Nd×Bool)->List Row
 | _,[]=> []
 | k,p::r=>jF k p::dK (k+1) r
theorem qU:∀(k:Nat) (l:List (Nd×Bool)),(dK k l).length=l.length
 | _,[]=>rfl
 | k,p::r=>by rw [dK,LD,qU,LD]
theorem CD:∀{k:Nat} {l:List (Nd×Bool)} {i:Nat} {p:Nd×Bool},l[i]? =some p->(dK k l)[i]? =some (jF (k+i) p)
 | _,[],_,_,h=>by simp at h
 | k,y::r,0,x,h=>by simp at h;subst h;rfl
 | k,y::r,i+1,x,h=>by rw [dK,MR,CD (by simpa using h),show k+1+i=k+ (i+1) by omega]
theorem CC:∀{k:Nat} {l:List (Nd×Bool)} {i:Nat} {x:Nd},l[i]? =some (x,false)->cj (k+i) (dK k l)=some (x.ek,enc x.ks)
 | _,[],_,_,h=>by simp at h
 | k,y::r,0,x,h=>by simp at h;subst h;simp [dK,jF,cj]
 | k,y::r,i+1,x,h=>by have a:=CC (k:=k+1) (l:=r) (i:=i) (x:=x) (by simpa using h);rw [show k+1+i=k+ (i+1) by omega] at a;rw [dK,cj,if_neg (by simp [jF]),a]
theorem CF{ks:List Int}:∀{k:Nat} {l:List (Nd×Bool)} {i:Nat} {x:Nd} {g:Bool},l[i]? =some (x,g)->cH (k+i) (some (x.ek,enc ks)) (dK k l)=dK k (l.set i (⟨x.op,x.ek,ks,x.n,x.d,x.nm⟩,false))
 | _,[],_,_,_,h=>by simp at h
 | k,y::r,0,x,g,h=>by simp at h;subst h;simp [dK,jF,cH]
 | k,y::r,i+1,x,g,h=>by have a:=CF (ks:=ks) (k:=k+1) (l:=r) (i:=i) (x:=x) (g:=g) (by simpa using h);rw [show k+1+i=k+ (i+1) by omega] at a;rw [dK,cH,if_neg (by simp [jF]),a,NA,dK]
theorem CE:∀{k:Nat} {l:List (Nd×Bool)} {i:Nat} {x:Nd} {g:Bool},l[i]? =some (x,g)->cH (k+i) none (dK k l)=dK k (l.set i (x,true))
 | _,[],_,_,_,h=>by simp at h
 | k,y::r,0,x,g,h=>by simp at h;subst h;simp [dK,jF,cH]
 | k,y::r,i+1,x,g,h=>by have a:=CE (k:=k+1) (l:=r) (i:=i) (x:=x) (g:=g) (by simpa using h);rw [show k+1+i=k+ (i+1) by omega] at a;rw [dK,cH,if_neg (by simp [jF]),a,NA,dK]
theorem CB:∀(k:Nat) (l:List Nd),dK k (l.map λx=>(x,false))=eN k l
 | _,[]=>rfl
 | k,x::r=>by rw [L6,dK,CB (k+1) r];rfl
def dB(l:List Bool):List (List T):=l.map λb=> [tb b]
theorem jU(l:List Bool):(dB l).length=l.length:=by simp [dB]
theorem mY{l:List Bool}{i:Nat}{b:Bool}(h:l[i]? =some b):(dB l)[i]? =some [tb b]:=by simp [dB,h]
theorem Dl{l:List Bool}{i:Nat}(v:Bool)(h:i < l.length):fH i 0 [tb v] (dB l)=some (dB (l.set i v)):=by unfold fH;rw [mY (Ly h)];simp [bZ,dB]
theorem tM{l:List Int}{i:Nat}(v:Int)(h:i < l.length):fH i 0 [ti v] (enc l)=some (enc (l.set i v)):=by unfold fH;rw [eC (Ly h)];simp [bZ,enc]
def dE(need:List Bool):List Int->List Bool
 | []=>need
 | k::r=>dE (need.set k.toNat true) r
theorem oW:∀(ks:List Int) (need:List Bool),(dE need ks).length=need.length
 | [],_=>rfl
 | k::r,need=>by rw [dE,oW r,Nr]
def back(N:List Nd)(need:List Bool):Nat->List Bool
 | 0=>need
 | i+1=>back N (if need.getD i false then dE need ((N.getD i ⟨0,true,[],0,0,s0⟩).ks) else need) i
theorem yc(N:List Nd):∀(i:Nat) (need:List Bool),(back N need i).length=need.length
 | 0,_=>rfl
 | i+1,need=>by rw [back,yc N i];split <;> simp [oW]
def dH(need:List Bool):Nat->List Nd->List Int->List Nd->List Int×List Nd
 | _,[],to,out=>(to,out)
 | i,x::r,to,out=>
  if need.getD i false then dH need (i+1) r (to.set i (out.length:Int)) (out++ [⟨x.op,x.ek,x.ks.map λk=>(to.set i (out.length:Int)).getD k.toNat 0,x.n,x.d,x.nm⟩])
  else dH need (i+1) r to out
def il(N:List Nd)(hold:List Int):List Nd×List Int:=
 let need:=back N (dE (List.replicate N.length false) hold) N.length;let q:=dH need 0 N (List.replicate N.length 0) []
 (q.2,hold.map λk=>q.1.getD k.toNat 0)
abbrev cA:ab:=ab.box [AV.t (T.af true),AV.t (T.af true),AV.t (T.af true)]
theorem HZ{N:List Nd}{eh:Bool}{hold:List Int}{ed:Bool}{ds:List (List T)}(hl:hold.length<=1000){r:List T}:∀(a:List Int) (j:Nat) (need:List Bool),hold.drop j=a->need.length=N.length->N.length<=100000->(∀k∈a,0<=k/\k < (N.length:Int))->
  Or kA [AV.ref (Id.c 2) 0,AV.ref (Id.c 3) 0,o4,I ((N.length:Int) - 1)] [ab.rows N.isEmpty 5 1 1 N.length (rows N),ab.sl false 1 eh (enc hold),ab.box [AV.t (T.ad 3 ed ds),o0,o1],cA,ab.sl false 1 false (dB (dE need a))]=some r->
  Or rD [AV.ref (Id.c 2) 0,AV.ref (Id.c 3) 0,o4,o1,I (hold.length:Int),I (j:Int)] [ab.rows N.isEmpty 5 1 1 N.length (rows N),ab.sl false 1 eh (enc hold),ab.box [AV.t (T.ad 3 ed ds),o0,o1],cA,ab.sl false 1 false (dB need)]=some r:=by
 intro a;induction a with
 | nil=>
  intro j need g f h e b;have d:¬(j:Int) < (hold.length:Int):=by have:=br g;omega
  have w:i64.wrap ((N.length:Int) - 1)= (N.length:Int) - 1:=wr (by omega);rw [dE] at b;refine ai ?_;rw [zh];simp only [aj,↓reduceIte,Int.reduceBEq,Int.reduceEq,d,jU,f,w];exact b
 | cons k a u=>
  intro j need g f h e b;obtain⟨n,x,o⟩:=bu g;have d:(j:Int) < (hold.length:Int):=by omega
  have h0: 0<=(j:Int):=by omega
  have v:=e k Lq;have p: 0<=k/\k < (need.length:Int):=by omega
  have m:=Dl (l:=need) (i:=k.toNat) true (by omega);rw [dE] at b;have s:=u (j+1) (need.set k.toNat true) o (by simp [f]) h (λy q=>e y (Lr _ q)) b;refine ai ?_;rw [zh];simp only [aj,↓reduceIte,Int.reduceBEq,Int.reduceEq,d,h0,and_self,aD,bJ n,jU,p,m,next j (by omega)];exact s
theorem HY{N:List Nd}{eh:Bool}{hold:List Int}{ed:Bool}{ds:List (List T)}{i:Nat}{x:Nd}(m:N[i]? =some x)(z:x.ks.length<=1000)(B:N.length<=100000){r:List T}:∀(a:List Int) (j:Nat) (need:List Bool),x.ks.drop j=a->need.length=N.length->(∀k∈a,0<=k/\k < (N.length:Int))->
  Or kA [AV.ref (Id.c 2) 0,AV.ref (Id.c 3) 0,o4,I ((i:Int) - 1)] [ab.rows N.isEmpty 5 1 1 N.length (rows N),ab.sl false 1 eh (enc hold),ab.box [AV.t (T.ad 3 ed ds),o0,o1],cA,ab.sl false 1 false (dB (dE need a))]=some r->
  Or rC [AV.ref (Id.c 2) 0,AV.ref (Id.c 3) 0,o4,I (i:Int),AV.row (Id.c 0) i,I (x.ks.length:Int),I (j:Int)] [ab.rows N.isEmpty 5 1 1 N.length (rows N),ab.sl false 1 eh (enc hold),ab.box [AV.t (T.ad 3 ed ds),o0,o1],cA,ab.sl false 1 false (dB need)]=some r:=by
 have C:i < N.length:=(Ls.1 m).1;intro a;induction a with
 | nil=>
  intro j need g f e b;have d:¬(j:Int) < (x.ks.length:Int):=by have:=br g;omega
  have w:i64.wrap ((i:Int) - 1)= (i:Int) - 1:=wr (by omega);rw [dE] at b;refine ai ?_;rw [ze];simp only [aj,↓reduceIte,Int.reduceBEq,Int.reduceEq,d,w];exact b
 | cons k a u=>
  intro j need g f e b;obtain⟨n,A,o⟩:=bu g;have d:(j:Int) < (x.ks.length:Int):=by omega
  have h0: 0<=(j:Int):=by omega
  have v:=e k Lq;have p: 0<=k/\k < (need.length:Int):=by omega
  have h:=Dl (l:=need) (i:=k.toNat) true (by omega);rw [dE] at b;have s:=u (j+1) (need.set k.toNat true) o (by simp [f]) (λy q=>e y (Lr _ q)) b;refine ai ?_;rw [ze];simp only [aj,↓reduceIte,Int.reduceBEq,Int.reduceEq,d,h0,and_self,xc m,aD,bJ n,jU,p,h,next j (by omega)];exact s
theorem HU{N:List Nd}{eh:Bool}{hold:List Int}{ed:Bool}{ds:List (List T)}(s:N.length<=100000)(l:∀x∈N,x.ks.length<=1000)(m:∀(i:Nat) (x:Nd),N[i]? =some x->∀k∈x.ks,0<=k/\k < (i:Int)){r:List T}:∀(i:Nat) (need:List Bool),i<=N.length->need.length=N.length->
  Or kA [AV.ref (Id.c 2) 0,AV.ref (Id.c 3) 0,o4,I (-1)] [ab.rows N.isEmpty 5 1 1 N.length (rows N),ab.sl false 1 eh (enc hold),ab.box [AV.t (T.ad 3 ed ds),o0,o1],cA,ab.sl false 1 false (dB (back N need i))]=some r->
  Or kA [AV.ref (Id.c 2) 0,AV.ref (Id.c 3) 0,o4,I ((i:Int) - 1)] [ab.rows N.isEmpty 5 1 1 N.length (rows N),ab.sl false 1 eh (enc hold),ab.box [AV.t (T.ad 3 ed ds),o0,o1],cA,ab.sl false 1 false (dB need)]=some r:=by
 intro i;induction i with
 | zero=>intro need _ e a;exact a
 | succ i o=>
  intro need y e a;have g:i < N.length:=by omega
  have p:(((i+1:Nat):Int) - 1)= (i:Int):=by omega
  have j:(i:Int)>=0:=by omega
  have h0: 0<=(i:Int)/\(i:Int) < (need.length:Int):=by omega
  have q: 0<=(i:Int)/\(i:Int) < (N.length:Int):=by omega
  have b:=Ly g;have d:need[i]? =some (need.getD i false):=by rw [Lw,Ly (by omega)];rfl
  have w:i64.wrap ((i:Int) - 1)= (i:Int) - 1:=wr (by omega);rw [p];rw [back] at a;cases f:need.getD i false with
  | false=>rw [f] at a d;have h:=o need (by omega) e (by simpa using a);refine ai ?_;rw [uP];simp only [aj,↓reduceIte,Int.reduceBEq,Int.reduceEq,j,h0,and_self,jU,Mb,mY d,w];exact h
  | true=>
   rw [f] at a d;have n:N.getD i ⟨0,true,[],0,0,s0⟩=N[i]:=by rw [Lw,b];rfl
   rw [n] at a;have h:=o (dE need N[i].ks) (by omega) (by rw [oW,e]) (by simpa using a);have v:=HY (eh:=eh) (hold:=hold) (ed:=ed) (ds:=ds) b (l _ (NP g)) s N[i].ks 0 need rfl e (λk u=>by have:=m i _ b k u;omega) h;refine ai ?_;rw [uP];simp only [aj,↓reduceIte,Int.reduceBEq,Int.reduceEq,j,h0,q,and_self,jU,Mb,mY d,aO,xd b,CA,xc b,aD];exact v
abbrev GR(L:List (Nd×Bool))(e:Bool)(n:Nat):ab:=ab.rows e 5 1 1 n (dK 0 L)
theorem sK{L:List (Nd×Bool)}{i:Nat}{p:Nd×Bool}(h:L[i]? =some p):(dK 0 L)[i]? =some (jF i p):=by have:=CD (k:=0) h;rwa [L5] at this
theorem oM{L:List (Nd×Bool)}{i:Nat}{x:Nd}(h:L[i]? =some (x,false)):cj i (dK 0 L)=some (x.ek,enc x.ks):=by have:=CC (k:=0) h;rwa [L5] at this
theorem AI{ks:List Int}{L:List (Nd×Bool)}{i:Nat}{x:Nd}{g:Bool}(h:L[i]? =some (x,g)):cH i (some (x.ek,enc ks)) (dK 0 L)=dK 0 (L.set i (⟨x.op,x.ek,ks,x.n,x.d,x.nm⟩,false)):=by have:=CF (ks:=ks) (k:=0) h;rwa [L5] at this
theorem AH{L:List (Nd×Bool)}{i:Nat}{x:Nd}{g:Bool}(h:L[i]? =some (x,g)):cH i none (dK 0 L)=dK 0 (L.set i (x,true)):=by have:=CE (k:=0) h;rwa [L5] at this
theorem Cy(k:Nat)(p:Nd×Bool):(jF k p).n=k:=rfl
theorem tz(k:Nat)(p:Nd×Bool):(jF k p).cs= [ti p.1.op,T.ak,ti p.1.n,ti p.1.d,T.str p.1.nm]:=rfl
abbrev cP(ed:Bool)(ds:List (List T))(x y:AV):ab:=ab.box [AV.t (T.ad 3 ed ds),x,y]
def fQ(x:Nd):List T:= [ti x.op,T.ad 1 x.ek (enc x.ks),ti x.n,ti x.d,T.str x.nm]
theorem BC{eh:Bool}{hold:List Int}{ed ee:Bool}{ds:List (List T)}{need:List Bool}{to:List Int}{i n:Nat}{x:Nd}(E:n<=100000)(C:x.ks.length<=1000)(y:∀k∈x.ks,0<=k/\k < (to.length:Int)){outB:AV}{more:List ab}{r:List T}
  (step:∀(L:List (Nd×Bool)) (j:Nat) (k v:Int) (a:List Int),(j:Int) < (x.ks.length:Int)->L[i]? =some (⟨x.op,x.ek,a,x.n,x.d,x.nm⟩,false)->a[j]? =some k->(0<=k/\k < (to.length:Int))->to[k.toNat]? =some v->j < a.length->a.length=x.ks.length->
   Or fJ [AV.ref (Id.c 2) 0,AV.ref (Id.c 3) 0,o4,o5,AV.ref (Id.c 6) 0,AV.ref (Id.c 7) 0,o0,I (n:Int),I (i:Int),AV.row (Id.c 0) i,I (x.ks.length:Int),I ((j+1:Nat):Int)] ([GR (L.set i (⟨x.op,x.ek,a.set j v,x.n,x.d,x.nm⟩,false)) ee n,ab.sl false 1 eh (enc hold),cP ed ds o0 o1,cA,ab.sl false 1 false (dB need),ab.sl false 1 false (enc to),cP ed ds outB (AV.t (T.af true)),ab.box [I x.op,AV.row (Id.c 0) i,I x.n,I x.d,AV.t (T.str x.nm)]] ++more)=some r->
   Or fJ [AV.ref (Id.c 2) 0,AV.ref (Id.c 3) 0,o4,o5,AV.ref (Id.c 6) 0,AV.ref (Id.c 7) 0,o0,I (n:Int),I (i:Int),AV.row (Id.c 0) i,I (x.ks.length:Int),I (j:Int)] ([GR L ee n,ab.sl false 1 eh (enc hold),cP ed ds o0 o1,cA,ab.sl false 1 false (dB need),ab.sl false 1 false (enc to),cP ed ds outB (AV.t (T.af true)),ab.box [I x.op,AV.row (Id.c 0) i,I x.n,I x.d,AV.t (T.str x.nm)]] ++more)=some r):
  ∀(b:List Int) (j:Nat) (L:List (Nd×Bool)) (a:List Int),x.ks.drop j=b->j<=x.ks.length->i < L.length->a.length=j->L[i]? =some (⟨x.op,x.ek,a++b,x.n,x.d,x.nm⟩,false)->
   Or fJ [AV.ref (Id.c 2) 0,AV.ref (Id.c 3) 0,o4,o5,AV.ref (Id.c 6) 0,AV.ref (Id.c 7) 0,o0,I (n:Int),I (i:Int),AV.row (Id.c 0) i,I (x.ks.length:Int),I (x.ks.length:Int)] ([GR (L.set i (⟨x.op,x.ek,a++b.map (λk=>to.getD k.toNat 0),x.n,x.d,x.nm⟩,false)) ee n,ab.sl false 1 eh (enc hold),cP ed ds o0 o1,cA,ab.sl false 1 false (dB need),ab.sl false 1 false (enc to),cP ed ds outB (AV.t (T.af true)),ab.box [I x.op,AV.row (Id.c 0) i,I x.n,I x.d,AV.t (T.str x.nm)]] ++more)=some r->
   Or fJ [AV.ref (Id.c 2) 0,AV.ref (Id.c 3) 0,o4,o5,AV.ref (Id.c 6) 0,AV.ref (Id.c 7) 0,o0,I (n:Int),I (i:Int),AV.row (Id.c 0) i,I (x.ks.length:Int),I (j:Int)] ([GR L ee n,ab.sl false 1 eh (enc hold),cP ed ds o0 o1,cA,ab.sl false 1 false (dB need),ab.sl false 1 false (enc to),cP ed ds outB (AV.t (T.af true)),ab.box [I x.op,AV.row (Id.c 0) i,I x.n,I x.d,AV.t (T.str x.nm)]] ++more)=some r:=by
 intro b;induction b with
 | nil=>
  intro j L a g w f e l h;have q:j=x.ks.length:=by have:=br g;omega
  have m:L.set i (⟨x.op,x.ek,a++ ([]:List Int).map (λk=>to.getD k.toNat 0),x.n,x.d,x.nm⟩,false)=L:=by have u:=(Ls.1 l).2;rw [MD,<-u,List.set_getElem_self]
  rw [m] at h;rw [q];exact h
 | cons k b B=>
  intro j L a g w f e l h;obtain⟨s,D,o⟩:=bu g;have p:=y k (LB s);have A:to[k.toNat]? =some (to.getD k.toNat 0):=by rw [Lw,Ly (by omega)];rfl
  have z:=yM o (by omega);refine step L j k (to.getD k.toNat 0) (a++k::b) (by omega) l (by rw [L7 (by omega),e,MY];rfl) p A (by simp;omega) (by simp;omega) ?_;have hs:(a++k::b).set j (to.getD k.toNat 0)= (a++ [to.getD k.toNat 0])++b:=by rw [List.set_append_right _ _ (by omega),e,MY,NV,LV];rfl
  rw [hs];refine B (j+1) _ (a++ [to.getD k.toNat 0]) o (by omega) (by simpa using f) (by simp [e]) ?_ ?_
  .rw [M4 f]
  .rw [List.set_set];rw [L6] at h;simpa only [LV,LZ] using h
def eM(need:List Bool)(i:Nat)(N:List Nd)(D:Nat->Nd):List (Nd×Bool):=N.mapIdx λj x=>if j < i then(if need.getD j false then(D j,true) else(x,false)) else(x,false)
theorem vE(need:List Bool)(i:Nat)(N:List Nd)(D:Nat->Nd):(eM need i N D).length=N.length:=by simp [eM]
theorem vD{need:List Bool}{i j:Nat}{N:List Nd}{D:Nat->Nd}{x:Nd}(h:N[j]? =some x):(eM need i N D)[j]? =some (if j < i then(if need.getD j false then(D j,true) else(x,false)) else(x,false)):=by unfold eM;rw [Nb,h];rfl
theorem AL{need:List Bool}{i:Nat}{N:List Nd}{D:Nat->Nd}(h:need.getD i false=false):eM need (i+1) N D=eM need i N D:=by
 unfold eM;refine MM λj=> ?_;rw [Nb,Nb];cases N[j]? with
 | none=>rfl
 | some x=>
  simp only [M2];by_cases e:j=i
  .subst e;rw [if_pos (NN _),h,if_neg (MS _)];rfl
  .by_cases a:j < i
   .rw [if_pos a,if_pos (by omega)]
   .rw [if_neg a,if_neg (by omega)]
theorem AM{need:List Bool}{i:Nat}{N:List Nd}{D a:Nat->Nd}{y:Nd}(h:need.getD i false=true)(d:i < N.length)(c:a=λj=>if j=i then y else D j):eM need (i+1) N a= (eM need i N D).set i (y,true):=by
 refine MM λj=> ?_;by_cases e:j=i
 .subst e;rw [M4 (by rw [vE];exact d),vD (Ly d),if_pos (NN _),h,c];simp
 .rw [NQ (N9 e)];unfold eM;rw [Nb,Nb];cases N[j]? with
  | none=>rfl
  | some x=>
   simp only [M2];by_cases b:j < i
   .rw [if_pos b,if_pos (by omega),c];simp only [if_neg e]
   .rw [if_neg b,if_neg (by omega)]
theorem GS(need:List Bool)(N:List Nd)(D:Nat->Nd):eM need 0 N D=N.map λx=>(x,false):=by unfold eM;refine MM λj=> ?_;rw [Nb,Mz];cases N[j]? <;> simp
open Go Go.Aev Go.IntKind
abbrev MF(L:List (Nd×Bool))(ee eh ed:Bool)(n:Nat)(hold:List Int)(ds:List (List T))(need:List Bool)(to:List Int)(x:AV):List ab:=
 [GR L ee n,ab.sl false 1 eh (enc hold),cP ed ds o0 o1,cA,ab.sl false 1 false (dB need),ab.sl false 1 false (enc to),cP ed ds x (AV.t (T.af true))]
theorem G0{eh ee ed:Bool}{hold:List Int}{ds:List (List T)}{need:List Bool}{to:List Int}{i n:Nat}{x:Nd}(z:n<=100000)(m:x.ks.length<=1000)(w:∀k∈x.ks,0<=k/\k < (to.length:Int)){L:List (Nd×Bool)}(g:i < L.length)(s:L[i]? =some (x,false)){r:List T}
  (e:Or gU [AV.ref (Id.c 2) 0,AV.ref (Id.c 3) 0,o4,o5,AV.ref (Id.c 6) 0,o0,I (n:Int),I ((i+1:Nat):Int)] (MF (L.set i (⟨x.op,x.ek,x.ks.map λk=>to.getD k.toNat 0,x.n,x.d,x.nm⟩,true)) ee eh ed n hold ds need to (AV.own (Id.c 7))++ [ab.sl false 5 false [fQ ⟨x.op,x.ek,x.ks.map λk=>to.getD k.toNat 0,x.n,x.d,x.nm⟩]])=some r) (B:i<=100000):
  Or fJ [AV.ref (Id.c 2) 0,AV.ref (Id.c 3) 0,o4,o5,AV.ref (Id.c 6) 0,AV.ref (Id.c 7) 0,o0,I (n:Int),I (i:Int),AV.row (Id.c 0) i,I (x.ks.length:Int),I 0] (MF L ee eh ed n hold ds need to (AV.t (T.af true))++ [ab.box [I x.op,AV.row (Id.c 0) i,I x.n,I x.d,AV.t (T.str x.nm)]])=some r:=by
 refine BC (need:=need) (outB:=AV.t (T.af true)) (more:= []) z m w (λL j k v o p f l h A u y e=> ?_) x.ks 0 L [] rfl (Nv _) g rfl s ?_
 .have h0: 0<=(j:Int):=by omega
  have q:(j:Int) < (o.length:Int):=by omega
  refine ai ?_;show aA aq ann Or fJ _ [GR L ee n,ab.sl false 1 eh (enc hold),cP ed ds o0 o1,cA,ab.sl false 1 false (dB need),ab.sl false 1 false (enc to),cP ed ds (AV.t (T.af true)) (AV.t (T.af true)),ab.box [I x.op,AV.row (Id.c 0) i,I x.n,I x.d,AV.t (T.str x.nm)]]=_;rw [zf];simp only [aj,↓reduceIte,Int.reduceBEq,Int.reduceEq,p,h0,and_self,oM f,aD,q,eC l,h,eC A,Mb,tM v u,next j (by omega)];have:=AI (ks:=o.set j v) f;rw [this];exact e
 .have a:(L.set i (⟨x.op,x.ek,[] ++x.ks.map (λk=>to.getD k.toNat 0),x.n,x.d,x.nm⟩,false))[i]? =some (⟨x.op,x.ek,x.ks.map λk=>to.getD k.toNat 0,x.n,x.d,x.nm⟩,false):=by
   rw [M4 g];rfl
  have b:=AH a;rw [List.set_set] at b;refine ai ?_;show aA aq ann Or fJ _ [GR (L.set i (⟨x.op,x.ek,[] ++x.ks.map (λk=>to.getD k.toNat 0),x.n,x.d,x.nm⟩,false)) ee n,ab.sl false 1 eh (enc hold),cP ed ds o0 o1,cA,ab.sl false 1 false (dB need),ab.sl false 1 false (enc to),cP ed ds (AV.t (T.af true)) (AV.t (T.af true)),ab.box [I x.op,AV.row (Id.c 0) i,I x.n,I x.d,AV.t (T.str x.nm)]]=_;rw [zf];simp only [aj,↓reduceIte,Int.reduceBEq,Int.reduceEq,Md,decide_false,oM a,b,next i (by omega)];exact e
theorem G1{eh ee ed:Bool}{hold:List Int}{ds:List (List T)}{need:List Bool}{to:List Int}{i n:Nat}{x:Nd}{out:List Nd}(C:out.length<=100000)(z:n<=100000)(m:x.ks.length<=1000)(w:∀k∈x.ks,0<=k/\k < (to.length:Int)){L:List (Nd×Bool)}(g:i < L.length)(s:L[i]? =some (x,false)){r:List T}
  (a:Or gU [AV.ref (Id.c 2) 0,AV.ref (Id.c 3) 0,o4,o5,AV.ref (Id.c 6) 0,o0,I (n:Int),I ((i+1:Nat):Int)] (MF (L.set i (⟨x.op,x.ek,x.ks.map λk=>to.getD k.toNat 0,x.n,x.d,x.nm⟩,true)) ee eh ed n hold ds need to (AV.own (Id.c 7))++ [ab.sl false 5 false ((out++ [(⟨x.op,x.ek,x.ks.map λk=>to.getD k.toNat 0,x.n,x.d,x.nm⟩:Nd)]).map fQ)])=some r) (B:i<=100000):
  Or fJ [AV.ref (Id.c 2) 0,AV.ref (Id.c 3) 0,o4,o5,AV.ref (Id.c 6) 0,AV.ref (Id.c 7) 0,o0,I (n:Int),I (i:Int),AV.row (Id.c 0) i,I (x.ks.length:Int),I 0] (MF L ee eh ed n hold ds need to (AV.own (Id.c 8))++ [ab.box [I x.op,AV.row (Id.c 0) i,I x.n,I x.d,AV.t (T.str x.nm)],ab.sl false 5 false (out.map fQ)])=some r:=by
 refine BC (need:=need) (outB:=AV.own (Id.c 8)) (more:= [ab.sl false 5 false (out.map fQ)]) z m w (λL j k v o p f l h A u y a=> ?_) x.ks 0 L [] rfl (Nv _) g rfl s ?_
 .have h0: 0<=(j:Int):=by omega
  have q:(j:Int) < (o.length:Int):=by omega
  refine ai ?_;show aA aq ann Or fJ _ [GR L ee n,ab.sl false 1 eh (enc hold),cP ed ds o0 o1,cA,ab.sl false 1 false (dB need),ab.sl false 1 false (enc to),cP ed ds (AV.own (Id.c 8)) (AV.t (T.af true)),ab.box [I x.op,AV.row (Id.c 0) i,I x.n,I x.d,AV.t (T.str x.nm)],ab.sl false 5 false (out.map fQ)]=_;rw [zg];simp only [aj,↓reduceIte,Int.reduceBEq,Int.reduceEq,p,h0,and_self,oM f,aD,q,eC l,h,eC A,Mb,tM v u,next j (by omega)];have:=AI (ks:=o.set j v) f;rw [this];exact a
 .have b:(L.set i (⟨x.op,x.ek,[] ++x.ks.map (λk=>to.getD k.toNat 0),x.n,x.d,x.nm⟩,false))[i]? =some (⟨x.op,x.ek,x.ks.map λk=>to.getD k.toNat 0,x.n,x.d,x.nm⟩,false):=by
   rw [M4 g];rfl
  have e:=AH b;rw [List.set_set] at e;rw [NB] at a;refine ai ?_;show aA aq ann Or fJ _ [GR (L.set i (⟨x.op,x.ek,[] ++x.ks.map (λk=>to.getD k.toNat 0),x.n,x.d,x.nm⟩,false)) ee n,ab.sl false 1 eh (enc hold),cP ed ds o0 o1,cA,ab.sl false 1 false (dB need),ab.sl false 1 false (enc to),cP ed ds (AV.own (Id.c 8)) (AV.t (T.af true)),ab.box [I x.op,AV.row (Id.c 0) i,I x.n,I x.d,AV.t (T.str x.nm)],ab.sl false 5 false (out.map fQ)]=_;rw [zg];simp only [aj,↓reduceIte,Int.reduceBEq,Int.reduceEq,Md,decide_false,oM b,e,next i (by omega),Mq,LG,cS (show out.length+1<=1000000 by omega)];exact a
theorem Ba{need:List Bool}{i:Nat}{x:Nd}{r:List Nd}{to:List Int}{out:List Nd}(h:need.getD i false=true):dH need i (x::r) to out=dH need (i+1) r (to.set i (out.length:Int)) (out++ [⟨x.op,x.ek,x.ks.map λk=>(to.set i (out.length:Int)).getD k.toNat 0,x.n,x.d,x.nm⟩]):=by rw [dH,if_pos h]
theorem A9{need:List Bool}{i:Nat}{x:Nd}{r:List Nd}{to:List Int}{out:List Nd}(h:need.getD i false=false):dH need i (x::r) to out=dH need (i+1) r to out:=by rw [dH,if_neg (by rw [h];simp)]
theorem HW{N:List Nd}{eh ee ed:Bool}{hold:List Int}{ds:List (List T)}{need:List Bool}(K:N.length<=90000)(w:∀x∈N,x.ks.length<=1000)(y:∀(i:Nat) (x:Nd),N[i]? =some x->∀k∈x.ks,0<=k/\k < (i:Int))(H:need.length=N.length){r:List T}:∀(a:List Nd) (i:Nat) (to:List Int) (out:List Nd) (D:Nat->Nd),N.drop i=a->i<=N.length->to.length=N.length->out.length<=i->
  (∀L,Or fc [AV.ref (Id.c 2) 0,AV.own (Id.c 3),AV.ref (Id.c 4) 0,o1,I (hold.length:Int),I 0] [GR L ee N.length,ab.sl false 1 eh (enc hold),cA,ab.sl false 1 false (enc (dH need i a to out).1),cP ed ds (AV.own (Id.c 5)) (AV.t (T.af true)),ab.sl false 5 false ((dH need i a to out).2.map fQ)]=some r)->
  Or gU [AV.ref (Id.c 2) 0,AV.ref (Id.c 3) 0,o4,o5,AV.ref (Id.c 6) 0,o0,I (N.length:Int),I (i:Int)] (MF (eM need i N D) ee eh ed N.length hold ds need to (AV.own (Id.c 7))++ [ab.sl false 5 false (out.map fQ)])=some r:=by
 intro a;induction a with
 | nil=>
  intro i to out D g E h A e;have o:¬(i:Int) < (N.length:Int):=by have:=br g;omega
  refine ai ?_;show aA aq ann Or gU _ [GR (eM need i N D) ee N.length,ab.sl false 1 eh (enc hold),cP ed ds o0 o1,cA,ab.sl false 1 false (dB need),ab.sl false 1 false (enc to),cP ed ds (AV.own (Id.c 7)) (AV.t (T.af true)),ab.sl false 5 false (out.map fQ)]=_;rw [uO];simp only [aj,↓reduceIte,Int.reduceBEq,Int.reduceEq,o,aD];exact e _
 | cons x a B=>
  intro i to out D g E h A e;obtain⟨s,J,u⟩:=bu g;have o:(i:Int) < (N.length:Int):=by omega
  have h0: 0<=(i:Int):=by omega
  have p:need[i]? =some (need.getD i false):=by rw [Lw,Ly (by omega)];rfl
  have q:(eM need i N D)[i]? =some (x,false):=by rw [vD s,if_neg (MS _)]
  have f:=vE need i N D;have v:(i:Int) < (need.length:Int):=by omega
  cases b:need.getD i false with
  | false=>rw [b] at p;rw [A9 b] at e;have m:=B (i+1) to out D u (by omega) h (by omega) e;rw [AL b] at m;refine ai ?_;show aA aq ann Or gU _ [GR (eM need i N D) ee N.length,ab.sl false 1 eh (enc hold),cP ed ds o0 o1,cA,ab.sl false 1 false (dB need),ab.sl false 1 false (enc to),cP ed ds (AV.own (Id.c 7)) (AV.t (T.af true)),ab.sl false 5 false (out.map fQ)]=_;rw [uO];simp only [aj,↓reduceIte,Int.reduceBEq,Int.reduceEq,o,h0,and_self,qU,f,Mb,sK q,tz,jU,v,mY p,Lx,next i (by omega)];exact m
  | true=>
   rw [b] at p;rw [Ba b] at e;have C:(i:Int) < (to.length:Int):=by omega
   have z:=y i x s;have m:=B (i+1) (to.set i (out.length:Int)) (out++ [⟨x.op,x.ek,x.ks.map λk=>(to.set i (out.length:Int)).getD k.toNat 0,x.n,x.d,x.nm⟩]) (λj=>if j=i then⟨x.op,x.ek,x.ks.map λk=>(to.set i (out.length:Int)).getD k.toNat 0,x.n,x.d,x.nm⟩ else D j) u (by omega) (by simp [h]) (by simp;omega) e;rw [AM b (by omega) rfl] at m;have G:=G1 (eh:=eh) (ee:=ee) (ed:=ed) (hold:=hold) (ds:=ds) (need:=need) (to:=to.set i (out.length:Int)) (i:=i) (n:=N.length) (x:=x) (out:=out) (by omega) (by omega) (w x (LB s)) (λk F=>by have:=z k F;rw [Nr];omega) (L:=eM need i N D) (by rw [f];omega) q m (by omega);refine ai ?_;show aA aq ann Or gU _ [GR (eM need i N D) ee N.length,ab.sl false 1 eh (enc hold),cP ed ds o0 o1,cA,ab.sl false 1 false (dB need),ab.sl false 1 false (enc to),cP ed ds (AV.own (Id.c 7)) (AV.t (T.af true)),ab.sl false 5 false (out.map fQ)]=_;rw [uO];simp only [aj,↓reduceIte,Int.reduceBEq,Int.reduceEq,o,h0,and_self,qU,f,Mb,sK q,tz,Cy,jU,v,mY p,Lv,aD,C,Mq,tM (l:=to) (i:=i) (out.length:Int) (by omega),oM q];exact G
def LN(l:List Nd):T:=if l.isEmpty then T.af true else T.ad 5 false (aU l)
theorem Hi(l:List Nd):(LN l).au 5=some (l.isEmpty,aU l):=by cases l <;> rfl
abbrev FB(L:List (Nd×Bool))(ee eh ed:Bool)(n:Nat)(hold:List Int)(ds:List (List T))(to:List Int)(out:List Nd):List ab:=
 match out with
 | []=> [GR L ee n,ab.sl false 1 eh (enc hold),cA,ab.sl false 1 false (enc to),cP ed ds (AV.t (T.af true)) (AV.t (T.af true))]
 | x::r=> [GR L ee n,ab.sl false 1 eh (enc hold),cA,ab.sl false 1 false (enc to),cP ed ds (AV.own (Id.c 5)) (AV.t (T.af true)),ab.sl false 5 false ((x::r).map fQ)]
theorem vQ{need:List Bool}:∀(a:List Nd) (i:Nat) (to:List Int) (out:List Nd),out≠[]->(dH need i a to out).2≠[]
 | [],_,_,_,h=>h
 | x::a,i,to,out,h=>by
  rw [dH];split
  .exact vQ a _ _ _ (by simp)
  .exact vQ a _ _ _ h
theorem HV{N:List Nd}{eh ee ed:Bool}{hold:List Int}{ds:List (List T)}{need:List Bool}(J:N.length<=90000)(z:∀x∈N,x.ks.length<=1000)(A:∀(i:Nat) (x:Nd),N[i]? =some x->∀k∈x.ks,0<=k/\k < (i:Int))(G:need.length=N.length){r:List T}:∀(e:List Nd) (i:Nat) (to:List Int) (D:Nat->Nd),N.drop i=e->i<=N.length->to.length=N.length->
  (∀L,Or fc [AV.ref (Id.c 2) 0,AV.own (Id.c 3),AV.ref (Id.c 4) 0,o1,I (hold.length:Int),I 0] (FB L ee eh ed N.length hold ds (dH need i e to []).1 (dH need i e to []).2)=some r)->
  Or gU [AV.ref (Id.c 2) 0,AV.ref (Id.c 3) 0,o4,o5,AV.ref (Id.c 6) 0,o0,I (N.length:Int),I (i:Int)] (MF (eM need i N D) ee eh ed N.length hold ds need to (AV.t (T.af true)))=some r:=by
 intro e;induction e with
 | nil=>
  intro i to D g K u o;have m:¬(i:Int) < (N.length:Int):=by have:=br g;omega
  refine ai ?_;rw [uN];simp only [aj,↓reduceIte,Int.reduceBEq,Int.reduceEq,m,aD];exact o _
 | cons x e P=>
  intro i to D g K u o;obtain⟨B,Q,C⟩:=bu g;have m:(i:Int) < (N.length:Int):=by omega
  have h0: 0<=(i:Int):=by omega
  have w:need[i]? =some (need.getD i false):=by rw [Lw,Ly (by omega)];rfl
  have y:(eM need i N D)[i]? =some (x,false):=by rw [vD B,if_neg (MS _)]
  have s:=vE need i N D;have p:(i:Int) < (need.length:Int):=by omega
  cases f:need.getD i false with
  | false=>rw [f] at w;rw [A9 f] at o;have v:=P (i+1) to D C (by omega) u o;rw [AL f] at v;refine ai ?_;rw [uN];simp only [aj,↓reduceIte,Int.reduceBEq,Int.reduceEq,m,h0,and_self,qU,s,Mb,sK y,tz,jU,p,mY w,Lx,next i (by omega)];exact v
  | true=>
   rw [f] at w;rw [Ba f] at o;have H:(i:Int) < (to.length:Int):=by omega
   have E:=A i x B;have v:=HW (eh:=eh) (ee:=ee) (ed:=ed) (hold:=hold) (ds:=ds) (need:=need) J z A G (r:=r) e (i+1) (to.set i ((0:Nat):Int)) [⟨x.op,x.ek,x.ks.map λk=>(to.set i ((0:Nat):Int)).getD k.toNat 0,x.n,x.d,x.nm⟩] (λj=>if j=i then⟨x.op,x.ek,x.ks.map λk=>(to.set i ((0:Nat):Int)).getD k.toNat 0,x.n,x.d,x.nm⟩ else D j) C (by omega) (by simp [u]) (by simp) (λL=>by
    have h:=o L;have F:=vQ (need:=need) e (i+1) (to.set i ((0:Nat):Int)) [⟨x.op,x.ek,x.ks.map λk=>(to.set i ((0:Nat):Int)).getD k.toNat 0,x.n,x.d,x.nm⟩] (by simp);simp only [LS,MP] at h;revert h F;generalize (dH need (i+1) e (to.set i ((0:Nat):Int)) [⟨x.op,x.ek,x.ks.map λk=>(to.set i ((0:Nat):Int)).getD k.toNat 0,x.n,x.d,x.nm⟩]).2=q;intro m p;cases q with
    | nil=>first | exact absurd rfl m | exact absurd rfl p
    | cons a b=>first | exact m | exact p)
   rw [AM f (by omega) rfl] at v;have O:=G0 (eh:=eh) (ee:=ee) (ed:=ed) (hold:=hold) (ds:=ds) (need:=need) (to:=to.set i ((0:Nat):Int)) (i:=i) (n:=N.length) (x:=x) (by omega) (z x (LB B)) (λk M=>by have:=E k M;rw [Nr];omega) (L:=eM need i N D) (by rw [s];omega) y v (by omega);refine ai ?_;rw [uN];simp only [aj,↓reduceIte,Int.reduceBEq,Int.reduceEq,m,h0,and_self,qU,s,Mb,sK y,tz,Cy,jU,p,mY w,Lv,aD,H,tM (l:=to) (i:=i) (0:Int) (by omega),oM y];exact O
theorem HX{L:List (Nd×Bool)}{ee eh ed:Bool}{n:Nat}{hold:List Int}{ds:List (List T)}{to:List Int}{out:List Nd}(hl:hold.length<=1000)(p:∀k∈hold,0<=k/\k < (to.length:Int)):
  Or fc [AV.ref (Id.c 2) 0,AV.own (Id.c 3),AV.ref (Id.c 4) 0,o1,I (hold.length:Int),I 0] (FB L ee eh ed n hold ds to out)=some [T.ad 3 ed ds,LN out,LO (hold.map λk=>to.getD k.toNat 0)]:=by
 have q:∀k∈hold,to[k.toNat]? =some (to.getD k.toNat 0):=λk hm=>by have:=p k hm;rw [Lw,Ly (by omega)];rfl
 cases out with
 | nil=>
  have v:∀(b:List Int) (j:Nat) (a:List Int),hold.drop j=b->j<=hold.length->a.length=j->
    Or fc [AV.ref (Id.c 2) 0,AV.own (Id.c 3),AV.ref (Id.c 4) 0,o1,I (hold.length:Int),I (j:Int)] [GR L ee n,ab.sl false 1 eh (enc hold),cA,ab.sl false 1 false (enc to),cP ed ds (AV.t (T.af true)) (AV.own (Id.c 5)),ab.sl false 1 false (enc a)]=some [T.ad 3 ed ds,T.af true,T.ad 1 false (enc (a++b.map λk=>to.getD k.toNat 0))]:=by
   intro b;induction b with
   | nil=>
    intro j a g s f;have e:¬(j:Int) < (hold.length:Int):=by have:=br g;omega
    refine ai ?_;rw [zj];simp only [aj,↓reduceIte,Int.reduceBEq,Int.reduceEq,e,MD,LW]
   | cons k b u=>
    intro j a g s f;obtain⟨d,y,r⟩:=bu g;have e:(j:Int) < (hold.length:Int):=by omega
    have h0: 0<=(j:Int):=by omega
    have i:=p k (LB d);have m:=q k (LB d);have o:=u (j+1) (a++ [to.getD k.toNat 0]) r (by omega) (by simp [f]);simp only [LV,LZ] at o;rw [L6];refine ai ?_;rw [zj];simp only [aj,↓reduceIte,Int.reduceBEq,Int.reduceEq,e,h0,and_self,aD,bJ d,i,eC m,LG,cS (show a.length+1<=1000000 by omega),next j (by omega),dS];exact o
  cases h:hold with
  | nil=>refine ai ?_;show aA aq ann Or fc _ [GR L ee n,ab.sl false 1 eh (enc []),cA,ab.sl false 1 false (enc to),cP ed ds (AV.t (T.af true)) (AV.t (T.af true))]=_;rw [zi];simp only [aj,↓reduceIte,Int.reduceBEq,Int.reduceEq,LS,L9,Md,decide_false];rfl
  | cons k b=>
   have i:=p k (by rw [h];exact Lq);have m:=q k (by rw [h];exact Lq);have o:=v b 1 [to.getD k.toNat 0] (by rw [h];rfl) (by rw [h];simp) rfl;rw [h] at o;have e:(0:Int) < (((k::b).length:Nat):Int):=by simp
   have h0:(0:Int)<=0:=by omega
   have d:(enc (k::b))[(0:Int).toNat]? =some [ti k]:=rfl;have w:i64.wrap (0+1)= ((1:Nat):Int):=by decide
   refine ai ?_;show aA aq ann Or fc _ [GR L ee n,ab.sl false 1 eh (enc (k::b)),cA,ab.sl false 1 false (enc to),cP ed ds (AV.t (T.af true)) (AV.t (T.af true))]=_;rw [zi];simp only [aj,↓reduceIte,Int.reduceBEq,Int.reduceEq,e,h0,and_self,aD,d,i,eC m,w];exact o
 | cons x xs=>
  have v:∀(b:List Int) (j:Nat) (a:List Int),hold.drop j=b->j<=hold.length->a.length=j->
    Or fc [AV.ref (Id.c 2) 0,AV.own (Id.c 3),AV.ref (Id.c 4) 0,o1,I (hold.length:Int),I (j:Int)] [GR L ee n,ab.sl false 1 eh (enc hold),cA,ab.sl false 1 false (enc to),cP ed ds (AV.own (Id.c 5)) (AV.own (Id.c 6)),ab.sl false 5 false ((x::xs).map fQ),ab.sl false 1 false (enc a)]=some [T.ad 3 ed ds,T.ad 5 false ((x::xs).map fQ),T.ad 1 false (enc (a++b.map λk=>to.getD k.toNat 0))]:=by
   intro b;induction b with
   | nil=>
    intro j a g s f;have e:¬(j:Int) < (hold.length:Int):=by have:=br g;omega
    refine ai ?_;rw [zl];simp only [aj,↓reduceIte,Int.reduceBEq,Int.reduceEq,e,MD,LW]
   | cons k b u=>
    intro j a g s f;obtain⟨d,y,r⟩:=bu g;have e:(j:Int) < (hold.length:Int):=by omega
    have h0: 0<=(j:Int):=by omega
    have i:=p k (LB d);have m:=q k (LB d);have o:=u (j+1) (a++ [to.getD k.toNat 0]) r (by omega) (by simp [f]);simp only [LV,LZ] at o;rw [L6 (l:=b)];refine ai ?_;rw [zl];simp only [aj,↓reduceIte,Int.reduceBEq,Int.reduceEq,e,h0,and_self,aD,bJ d,i,eC m,LG,cS (show a.length+1<=1000000 by omega),next j (by omega),dS];exact o
  cases h:hold with
  | nil=>refine ai ?_;show aA aq ann Or fc _ [GR L ee n,ab.sl false 1 eh (enc []),cA,ab.sl false 1 false (enc to),cP ed ds (AV.own (Id.c 5)) (AV.t (T.af true)),ab.sl false 5 false ((x::xs).map fQ)]=_;rw [zk];simp only [aj,↓reduceIte,Int.reduceBEq,Int.reduceEq,LS,L9,Md,decide_false];rfl
  | cons k b=>
   have i:=p k (by rw [h];exact Lq);have m:=q k (by rw [h];exact Lq);have o:=v b 1 [to.getD k.toNat 0] (by rw [h];rfl) (by rw [h];simp) rfl;rw [h] at o;have e:(0:Int) < (((k::b).length:Nat):Int):=by simp
   have h0:(0:Int)<=0:=by omega
   have d:(enc (k::b))[(0:Int).toNat]? =some [ti k]:=rfl;have w:i64.wrap (0+1)= ((1:Nat):Int):=by decide
   refine ai ?_;show aA aq ann Or fc _ [GR L ee n,ab.sl false 1 eh (enc (k::b)),cA,ab.sl false 1 false (enc to),cP ed ds (AV.own (Id.c 5)) (AV.t (T.af true)),ab.sl false 5 false ((x::xs).map fQ)]=_;rw [zk];simp only [aj,↓reduceIte,Int.reduceBEq,Int.reduceEq,e,h0,and_self,aD,d,i,eC m,w];exact o
theorem vP{need:List Bool}:∀(a:List Nd) (i:Nat) (to:List Int) (out:List Nd),(dH need i a to out).1.length=to.length
 | [],_,_,_=>rfl
 | x::a,i,to,out=>by
  rw [dH];split
  .rw [vP a];simp
  .exact vP a _ _ _
theorem JL{N:List Nd}{eh ed:Bool}{hold:List Int}{ds:List (List T)}(p:N.length<=90000)(hl:hold.length<=1000)(d:∀x∈N,x.ks.length<=1000)(e:∀(i:Nat) (x:Nd),N[i]? =some x->∀k∈x.ks,0<=k/\k < (i:Int))(l:∀k∈hold,0<=k/\k < (N.length:Int)):
  Or (.call 29) [AV.agg [AV.t (T.ad 3 ed ds),o0,o1]] [ab.rows N.isEmpty 5 1 1 N.length (rows N),ab.sl false 1 eh (enc hold)]=some [T.ad 3 ed ds,LN (il N hold).1,LO (il N hold).2]:=by
 unfold il;dsimp only;have g:(dE (List.replicate N.length false) hold).length=N.length:=by rw [oW,MW]
 have b:(back N (dE (List.replicate N.length false) hold) N.length).length=N.length:=by rw [yc,g]
 have f:=λL=>HX (L:=L) (ee:=N.isEmpty) (eh:=eh) (ed:=ed) (n:=N.length) (hold:=hold) (ds:=ds) (to:=(dH (back N (dE (List.replicate N.length false) hold) N.length) 0 N (List.replicate N.length 0) []).1) (out:=(dH (back N (dE (List.replicate N.length false) hold) N.length) 0 N (List.replicate N.length 0) []).2) hl (λk hm=>by rw [vP,MW];exact l k hm);have h:=HV (eh:=eh) (ee:=N.isEmpty) (ed:=ed) (hold:=hold) (ds:=ds) p d e b N 0 (List.replicate N.length 0) (λ_=>⟨0,true,[],0,0,s0⟩) rfl (Nv _) (by simp) f;rw [GS] at h;have j:Or kA [AV.ref (Id.c 2) 0,AV.ref (Id.c 3) 0,o4,I (-1)] [ab.rows N.isEmpty 5 1 1 N.length (rows N),ab.sl false 1 eh (enc hold),ab.box [AV.t (T.ad 3 ed ds),o0,o1],cA,ab.sl false 1 false (dB (back N (dE (List.replicate N.length false) hold) N.length))]=some [T.ad 3 ed ds,LN (dH (back N (dE (List.replicate N.length false) hold) N.length) 0 N (List.replicate N.length 0) []).2,LO (hold.map λk=>(dH (back N (dE (List.replicate N.length false) hold) N.length) 0 N (List.replicate N.length 0) []).1.getD k.toNat 0)]:=by
  have o:¬(-1:Int)>=0:=by omega
  have hm:kf (N.length:Int) (N.length:Int)=some ():=by unfold kf;rw [if_pos ⟨by omega,by omega,by unfold kc;omega⟩]
  have a:List.replicate ((N.length:Int)).toNat [ti 0]=enc (List.replicate N.length 0):=by simp [enc]
  refine ai ?_;rw [uP];simp only [aj,↓reduceIte,Int.reduceBEq,Int.reduceEq,o,jU,b,hm,a,aO];simp only [MF,GR,CB] at h;exact h
 have q:=HU (eh:=eh) (hold:=hold) (ed:=ed) (ds:=ds) (show N.length<=100000 by omega) d e N.length (dE (List.replicate N.length false) hold) (LM _) g j;have m:=HZ (eh:=eh) (ed:=ed) (ds:=ds) hl hold 0 (List.replicate N.length false) rfl (by simp) (by omega) l q;have hm:kf (N.length:Int) (N.length:Int)=some ():=by unfold kf;rw [if_pos ⟨by omega,by omega,by unfold kc;omega⟩]
 have a:List.replicate ((N.length:Int)).toNat [tb false]=dB (List.replicate N.length false):=by simp [dB]
 refine ai ?_;rw [E8];simp only [aj,↓reduceIte,Int.reduceBEq,Int.reduceEq,aO,hm,a,aD];exact m
open Go Go.Aev Go.IntKind
theorem oa(x:ByteArray):x.data.toList.length=x.size:=by rw [LU];rfl
def jv(s p:ByteArray):Bool:=decide ((s.size:Int)>=(p.size:Int)) && decide (s.extract 0 p.size=p)
def mv(s p:ByteArray):Bool:=jv s p && (match s.data.toList[p.size]? with
 | some u=>decide ((u.toNat:Int)>=48) && decide ((u.toNat:Int)<=57)
 | none=>false)
theorem Jo(s p:ByteArray):Or (.call 91) [AV.t (T.str s),AV.t (T.str p)] []=some [tb (jv s p)]:=by
 unfold jv;refine ai ?_;rw [EP];by_cases h:(s.size:Int)>=(p.size:Int)
 .have a:gE 0 (p.size:Int) (s.size:Int)=some ():=by unfold gE;rw [if_pos ⟨by omega,by omega,by omega⟩]
  simp only [aj,↓reduceIte,Int.reduceBEq,Int.reduceEq,h,a,decide_true,Mb,py]
 .simp only [bo,aj,↓reduceIte,Int.reduceBEq,Int.reduceEq,h,decide_false]
def iF(s p:ByteArray):ByteArray:=if jv s p then s.extract p.size s.size else s
theorem JS(s p:ByteArray):Or (.call 43) [AV.t (T.str s),AV.t (T.str p)] []=some [T.str (iF s p),tb (jv s p)]:=by
 have k:=Jo s p;have c:Or (.call 78) [AV.t (T.str s),AV.t (T.str p)] []=some [T.str (iF s p),tb (jv s p)]:=by
  unfold iF;refine ai ?_;rw [Gb];cases a:jv s p with
  | false=>rw [a] at k;simp only [aj,↓reduceIte,Int.reduceBEq,Int.reduceEq,k,Lx];rfl
  | true=>
   rw [a] at k;have hs:(p.size:Int)<=(s.size:Int):=by unfold jv at a;simp only [Lu,decide_eq_true_eq] at a;exact a.1
   have b:gE (p.size:Int) (s.size:Int) (s.size:Int)=some ():=by unfold gE;rw [if_pos ⟨by omega,by omega,by omega⟩]
   simp only [aj,↓reduceIte,Int.reduceBEq,Int.reduceEq,k,Lv,b,Mb]
 refine ai ?_;rw [Fj];simp only [aj,↓reduceIte,Int.reduceBEq,Int.reduceEq,c]
theorem JR(nm p:ByteArray)(ea:Bool)(ar:List (List T))(so:Int):Or (.call 42) [AV.agg [AV.t (T.str nm),AV.t (T.ad 1 ea ar),I so],AV.t (T.ptr [T.str p])] []=some [tb (mv nm p)]:=by
 have k:=JS nm p;unfold mv;refine ai ?_;rw [Fi];cases c:jv nm p with
 | false=>rw [c] at k;simp only [bo,aj,↓reduceIte,Int.reduceBEq,Int.reduceEq,k]
 | true=>
  have e:iF nm p=nm.extract p.size nm.size:=by unfold iF;rw [c];rfl
  have el:(iF nm p).data.toList=nm.data.toList.drop p.size:=by rw [e];exact Go.Lib.extract_to_end nm p.size
  have es:(iF nm p).size=nm.size - p.size:=by have:=congrArg List.length el;rw [MG,oa,oa] at this;exact this
  rw [c] at k;have g:(iF nm p).data.toList[0]? =nm.data.toList[p.size]?:=by rw [el,Nz,Nx]
  cases b:nm.data.toList[p.size]? with
  | none=>
   have f:iF nm p=ByteArray.mk #[]:=by
    have:(iF nm p).data.toList= []:=by rw [el];have:=List.getElem?_eq_none_iff.1 b;exact Nl this
    cases h:iF nm p with
    | mk d=>rw [h] at this;simp only at this;rw [Array.toList_eq_nil_iff.1 this]
   simp only [bo,aj,↓reduceIte,Int.reduceBEq,Int.reduceEq,k,py,f,decide_true,Lv]
  | some u=>
   have j:p.size < nm.size:=by have:=(Ls.1 b).1;rw [oa] at this;exact this
   have f:¬iF nm p=ByteArray.mk #[]:=λh=>by have:=congrArg ByteArray.size h;rw [es] at this;have l:(ByteArray.mk #[]).size=0:=rfl;omega
   have i:(0:Int)<=0/\(0:Int) < ((iF nm p).size:Int):=by rw [es];omega
   rw [b] at g;simp only [aj,↓reduceIte,Int.reduceBEq,Int.reduceEq,k,py,f,decide_false,Lx,i,and_self,g];by_cases a:(u.toNat:Int)>=48
   .simp only [aj,↓reduceIte,Int.reduceBEq,Int.reduceEq,a,decide_true]
   .simp only [bo,aj,↓reduceIte,Int.reduceBEq,Int.reduceEq,a,decide_false]
def ij(ds:List Dc)(p:ByteArray):Bool:=ds.any λd=>mv d.nm p
theorem BE{e:Bool}{ds:List Dc}{p:ByteArray}(hl:ds.length<=100):∀(r:List Dc) (i:Nat),ds.drop i=r->
  ∃z:Int,Or fK [AV.t (T.ad 3 e (aJ ds)),AV.fn 42 [] [AV.t (T.ptr [T.str p])],I (ds.length:Int),I (i:Int)] []=some [ti z]/\decide (z>=0)=r.any λd=>mv d.nm p:=by
 intro r;induction r with
 | nil=>
  intro i g;have a:¬(i:Int) < (ds.length:Int):=by have:=br g;omega
  refine⟨-1,ai ?_,by simp⟩;rw [ve];simp only [aj,↓reduceIte,Int.reduceBEq,Int.reduceEq,a]
 | cons d r h=>
  intro i g;obtain⟨c,m,f⟩:=bu g;have a:(i:Int) < (ds.length:Int):=by omega
  have h0: 0<=(i:Int):=by omega
  have k:=JR d.nm p d.ea (enc d.ar) d.so;cases b:mv d.nm p with
  | true=>rw [b] at k;refine⟨(i:Int),ai ?_,by simp [b]⟩;rw [ve];simp only [aj,↓reduceIte,Int.reduceBEq,Int.reduceEq,a,h0,and_self,cw,dR c,k]
  | false=>rw [b] at k;obtain⟨z,j,l⟩:=h (i+1) f;refine⟨z,ai ?_,by rw [l];simp [b]⟩;rw [ve];simp only [aj,↓reduceIte,Int.reduceBEq,Int.reduceEq,a,h0,and_self,cw,dR c,k,next i (by omega)];exact j
def jc(ds:List Dc):Nat->ByteArray->ByteArray
 | 0,p=>p
 | k+1,p=>if ij ds p then jc ds k (p++us) else p
theorem tO{ds:List Dc}{p:ByteArray}(hs:∀d∈ds,d.nm.size<=12)(h:ij ds p=true):p.size < 12:=by
 unfold ij at h;obtain⟨d,a,h⟩:=Nh.1 h;unfold mv at h;simp only [Lu] at h;split at h
 .rename_i u b;have:=(Ls.1 b).1;have c:=hs d a;have e:=oa d.nm;omega
 .cases h.2
theorem HI{ed en eh:Bool}{ds:List Dc}{ns:List (List T)}{hs:List (List T)}(hl:ds.length<=100)(c:∀d∈ds,d.nm.size<=12):∀(k:Nat) (p:ByteArray),12<=p.size+k->p.size<=12->
  Or rB [r0,r1] [ab.box [AV.t (T.ad 3 ed (aJ ds)),AV.t (T.ad 5 en ns),AV.t (T.ad 1 eh hs)],ab.box [AV.t (T.str p)]]=some [T.str (jc ds k p)]:=by
 intro k;induction k with
 | zero=>
  intro p l m;obtain⟨z,g,i⟩:=BE (e:=ed) (p:=p) hl ds 0 rfl;have b:Or (.call 77) [AV.t (T.ad 3 ed (aJ ds)),AV.fn 42 [] [AV.t (T.ptr [T.str p])]] []=some [ti z]:=by refine ai ?_;rw [zP];simp only [cw];exact g
  have nt:ij ds p=false:=by
   cases h:ij ds p with
   | false=>rfl
   | true=>have:=tO c h;omega
  have a:Or (.call 40) [AV.t (T.ad 3 ed (aJ ds)),AV.fn 42 [] [AV.t (T.ptr [T.str p])]] []=some [tb false]:=by rw [<-nt];refine ai ?_;rw [zo];simp only [aj,↓reduceIte,Int.reduceBEq,Int.reduceEq,b,i,ij]
  rw [jc];refine ai ?_;rw [uK];simp only [aj,↓reduceIte,Int.reduceBEq,Int.reduceEq,a]
 | succ k o=>
  intro p l m;obtain⟨z,g,i⟩:=BE (e:=ed) (p:=p) hl ds 0 rfl;have b:Or (.call 77) [AV.t (T.ad 3 ed (aJ ds)),AV.fn 42 [] [AV.t (T.ptr [T.str p])]] []=some [ti z]:=by refine ai ?_;rw [zP];simp only [cw];exact g
  have a:Or (.call 40) [AV.t (T.ad 3 ed (aJ ds)),AV.fn 42 [] [AV.t (T.ptr [T.str p])]] []=some [tb (ij ds p)]:=by refine ai ?_;rw [zo];simp only [aj,↓reduceIte,Int.reduceBEq,Int.reduceEq,b,i,ij]
  rw [jc];cases f:ij ds p with
  | false=>rw [f] at a;refine ai ?_;rw [uK];simp only [aj,↓reduceIte,Int.reduceBEq,Int.reduceEq,a];rfl
  | true=>
   rw [f] at a;have:=tO c f;have n:=o (p++us) (by rw [LQ,fk];omega) (by rw [LQ,fk];omega);have j:p.size+1<=4294967296:=by omega
   refine ai ?_;rw [uK];simp only [aj,↓reduceIte,Int.reduceBEq,Int.reduceEq,a,j];exact n
def cQ(ds:List Dc):ByteArray:=jc ds 11 us
theorem wM{ds:List Dc}(a:∀d∈ds,d.nm.size<=12):∀(k:Nat) (p:ByteArray),p.size<=12->(jc ds k p).size<=12
 | 0,p,h=>h
 | k+1,p,h=>by
  rw [jc];split
  .rename_i b;have:=tO a b;exact wM a k _ (by rw [LQ,fk];omega)
  .exact h
theorem Jx{ed en eh:Bool}{ds:List Dc}{ns:List (List T)}{hs:List (List T)}(hl:ds.length<=100)(a:∀d∈ds,d.nm.size<=12):
  Or (.call 25) [AV.agg [AV.t (T.ad 3 ed (aJ ds)),AV.t (T.ad 5 en ns),AV.t (T.ad 1 eh hs)]] []=some [T.str (cQ ds)]:=by
 have:=HI (ed:=ed) (en:=en) (eh:=eh) (ns:=ns) (hs:=hs) hl a 11 us (by rw [fk];omega) (by rw [fk];omega);refine ai ?_;rw [EZ];exact this
theorem Ir{e:Bool}{l:List Int}(hl:l.length<=1000):∀(r:List Int) (i:Nat),l.drop i=r->
  ∃z:Int,Or eP [ad e l,AV.fn 14 [] [],I (l.length:Int),I (i:Int)] []=some [ti z]/\decide (z>=0)=r.any aH:=by
 intro r;induction r with
 | nil=>
  intro i g;have a:¬(i:Int) < (l.length:Int):=by have:=br g;omega
  refine⟨-1,ai ?_,by simp⟩;rw [uW];simp only [aj,↓reduceIte,Int.reduceBEq,Int.reduceEq,a]
 | cons d r h=>
  intro i g;obtain⟨c,n,f⟩:=bu g;have a:(i:Int) < (l.length:Int):=by omega
  have h0: 0<=(i:Int):=by omega
  have k:=gM d;cases b:aH d with
  | true=>rw [b] at k;refine⟨(i:Int),ai ?_,by simp [b]⟩;rw [uW];simp only [aj,↓reduceIte,Int.reduceBEq,Int.reduceEq,a,h0,and_self,aD,bJ c,k]
  | false=>rw [b] at k;obtain⟨z,j,m⟩:=h (i+1) f;refine⟨z,ai ?_,by rw [m];simp [b]⟩;rw [uW];simp only [aj,↓reduceIte,Int.reduceBEq,Int.reduceEq,a,h0,and_self,aD,bJ c,k,next i (by omega)];exact j
theorem Iu{e:Bool}{ds:List Dc}(hl:ds.length<=1000):∀(r:List Dc) (i:Nat),ds.drop i=r->
  ∃z:Int,Or fK [AV.t (T.ad 3 e (aJ ds)),AV.fn 41 [] [],I (ds.length:Int),I (i:Int)] []=some [ti z]/\decide (z>=0)=r.any λd=>aH d.so:=by
 intro r;induction r with
 | nil=>
  intro i g;have a:¬(i:Int) < (ds.length:Int):=by have:=br g;omega
  refine⟨-1,ai ?_,by simp⟩;rw [vd];simp only [aj,↓reduceIte,Int.reduceBEq,Int.reduceEq,a]
 | cons d r j=>
  intro i g;obtain⟨c,n,h⟩:=bu g;have a:(i:Int) < (ds.length:Int):=by omega
  have h0: 0<=(i:Int):=by omega
  have f:=gM d.so;have k:Or (.call 41) [AV.agg [AV.t (T.str d.nm),AV.t (T.ad 1 d.ea (enc d.ar)),I d.so]] []=some [tb (aH d.so)]:=by refine ai ?_;rw [Fh];simp only [aj,↓reduceIte,Int.reduceBEq,Int.reduceEq,f]
  cases b:aH d.so with
  | true=>rw [b] at k;refine⟨(i:Int),ai ?_,by simp [b]⟩;rw [vd];simp only [aj,↓reduceIte,Int.reduceBEq,Int.reduceEq,a,h0,and_self,cw,dR c,k]
  | false=>rw [b] at k;obtain⟨z,l,m⟩:=j (i+1) h;refine⟨z,ai ?_,by rw [m];simp [b]⟩;rw [vd];simp only [aj,↓reduceIte,Int.reduceBEq,Int.reduceEq,a,h0,and_self,cw,dR c,k,next i (by omega)];exact l
def nN(ds:List Dc)(ss:List Int):Bool:=ss.any aH || ds.any λd=>aH d.so
theorem JN{e:Bool}{l:List Int}(hl:l.length<=1000):Or (.call 39) [ad e l,AV.fn 14 [] []] []=some [tb (l.any aH)]:=by
 obtain⟨z,b,c⟩:=Ir (e:=e) hl l 0 rfl;have a:Or (.call 76) [ad e l,AV.fn 14 [] []] []=some [ti z]:=by refine ai ?_;rw [F3];simp only [aD];exact b
 refine ai ?_;rw [E9];simp only [aj,↓reduceIte,Int.reduceBEq,Int.reduceEq,a,c]
theorem Jv{ed en eh es:Bool}{ds:List Dc}{ns:List (List T)}{hs:List (List T)}{ss:List Int}(hl:ds.length<=100)(c:ss.length<=1000):
  Or (.call 23) [AV.agg [AV.t (T.ad 3 ed (aJ ds)),AV.t (T.ad 5 en ns),AV.t (T.ad 1 eh hs)],ad es ss] []=some [tb (nN ds ss)]:=by
 have a:=JN (e:=es) c;obtain⟨z,h,i⟩:=Iu (e:=ed) (ds:=ds) (by omega) ds 0 rfl;have g:Or (.call 77) [AV.t (T.ad 3 ed (aJ ds)),AV.fn 41 [] []] []=some [ti z]:=by refine ai ?_;rw [F8];simp only [cw];exact h
 have f:Or (.call 40) [AV.t (T.ad 3 ed (aJ ds)),AV.fn 41 [] []] []=some [tb (ds.any λd=>aH d.so)]:=by refine ai ?_;rw [Ff];simp only [aj,↓reduceIte,Int.reduceBEq,Int.reduceEq,g,i]
 unfold nN;refine ai ?_;rw [EY];cases b:ss.any aH with
 | true=>rw [b] at a;simp only [bo,aj,↓reduceIte,Int.reduceBEq,Int.reduceEq,a,Lv];rfl
 | false=>rw [b] at a;simp only [aj,↓reduceIte,Int.reduceBEq,Int.reduceEq,a,Lx,f];rfl
def fF(p:ByteArray)(k:Nat)(d:Dc):Nat->Nat->List Dc
 | _,0=> []
 | b,n+1=>⟨p++it (k:Int)++us++it (b:Int),d.ea,d.ar,1⟩::fF p k d (b+1) n
def kg(p:ByteArray)(k:Nat):Nat->Nat->Bool->Bool
 | _,0,ok=>ok
 | b,n+1,ok=>kg p k (b+1) n (ok && decide (((p++it (k:Int)++us++it (b:Int)).size:Int)<=12))
def cC(p:ByteArray):Nat->List Dc->List Dc
 | _,[]=> []
 | k,d::r=>(if aH d.so then fF p k d 0 (d.so - 10).toNat else [d])++cC p (k+1) r
def fU(p:ByteArray):Nat->List Dc->Bool->Bool
 | _,[],ok=>ok
 | k,d::r,ok=>fU p (k+1) r (if aH d.so then kg p k 0 (d.so - 10).toNat ok else ok)
theorem uq(p:ByteArray)(k:Nat)(d:Dc):∀(n b:Nat),(fF p k d b n).length=n
 | 0,_=>rfl
 | n+1,b=>by rw [fF,LD,uq p k d n]
theorem mq(e:Bool)(l:List Int)(a:e=true->l= [])(hl:l.length<=1000000):∃x,Or (.call 18) [ad e l] []=some [x]/\x.au 1=some (e,enc l):=by
 refine⟨_,CS e l a hl, ?_⟩;cases e with
 | true=>rw [a rfl];rfl
 | false=>rfl
theorem fM(v x:Bool):(bif v then x else false)= (v && x):=by cases v <;> rfl
def mZ(d:Dc):List T:= [T.str d.nm,T.ad 1 d.ea (enc d.ar),ti d.so]
theorem BB{p:ByteArray}{ed:Bool}{ds:List Dc}{k w:Nat}{d:Dc}(y:p.size<=100)(v:k<=100)(h:d.ea=true->d.ar= [])(u:d.ar.length<=1000)(z:w<=100){r:List T}:∀(n b:Nat) (a:List Dc) (ok:Bool),b+n=w->a.length+n<=100000->
  Or jN [AV.t (T.str p),o0,B (kg p k b n ok),AV.t (T.ad 3 ed (aJ ds)),I (ds.length:Int),I ((k+1:Nat):Int)] [ab.sl false 3 false ((a++fF p k d b n).map mZ)]=some r->
  Or lI [AV.t (T.str p),o0,B ok,I (k:Int),r1,AV.t (T.ad 3 ed (aJ ds)),I (ds.length:Int),I (k:Int),I (w:Int),I (b:Int)] [ab.sl false 3 false (a.map mZ),ab.box [AV.t (T.str d.nm),ad d.ea d.ar,I d.so]]=some r:=by
 have f:dL (k:Int):=⟨by omega,by omega⟩;have A:=gG f;intro n;induction n with
 | zero=>
  intro b a ok o hl c;have g:¬(b:Int) < (w:Int):=by omega
  rw [fF,LW,kg] at c;refine ai ?_;rw [yZ];simp only [aj,↓reduceIte,Int.reduceBEq,Int.reduceEq,g,next k (by omega)];exact c
 | succ n s=>
  intro b a ok o hl c;have g:(b:Int) < (w:Int):=by omega
  have e:dL (b:Int):=⟨by omega,by omega⟩;have C:=gG e;have l:p.size+ (it (k:Int)).size<=4294967296:=by omega
  have m:(p++it (k:Int)).size+1<=4294967296:=by rw [LQ];omega
  have c3:(p++it (k:Int)++us).size+ (it (b:Int)).size<=4294967296:=by simp only [LQ,fk];omega
  obtain⟨x,j,q⟩:=mq d.ea d.ar h (by omega);rw [fF,kg] at c;have i:=s (b+1) (a++ [⟨p++it (k:Int)++us++it (b:Int),d.ea,d.ar,1⟩]) _ (by omega) (by simp;omega) (by simpa only [LV,LZ] using c);rw [NB] at i;refine ai ?_;rw [yZ];simp only [aj,↓reduceIte,Int.reduceBEq,Int.reduceEq,g,gO f,gO e,l,m,c3,j,q,Mq,LG,cS (show a.length+1<=1000000 by omega),next b (by omega),fM];exact i
theorem BA{p:ByteArray}{ed:Bool}{ds:List Dc}(s:p.size<=100)(hl:ds.length<=100)(f:∀d∈ds,d.ea=true->d.ar= [])(h:∀d∈ds,d.ar.length<=1000):∀(r:List Dc) (k:Nat) (a:List Dc) (ok:Bool),ds.drop k=r->k<=ds.length->a.length<=100 * k->
  Or jN [AV.t (T.str p),o0,B ok,AV.t (T.ad 3 ed (aJ ds)),I (ds.length:Int),I (k:Int)] [ab.sl false 3 false (a.map mZ)]=some [T.ad 3 false ((a++cC p k r).map mZ),tb (fU p k r ok && decide ((((a++cC p k r).length:Nat):Int)<=30))]:=by
 intro r;induction r with
 | nil=>
  intro k a ok g q o;have e:¬(k:Int) < (ds.length:Int):=by have:=br g;omega
  rw [cC,fU,LW];refine ai ?_;rw [uM];simp only [aj,↓reduceIte,Int.reduceBEq,Int.reduceEq,e,Mq,fM]
 | cons d r m=>
  intro k a ok g q o;obtain⟨i,A,l⟩:=bu g;have hm:=LB i;have e:(k:Int) < (ds.length:Int):=by omega
  have h0: 0<=(k:Int):=by omega
  have b:=gM d.so;obtain⟨x,n,u⟩:=mq d.ea d.ar (f d hm) (by have:=h d hm;omega);rw [cC,fU];cases j:aH d.so with
  | false=>rw [j] at b;have c:=m (k+1) (a++ [d]) ok l (by omega) (by simp;omega);simp only [LV,LZ] at c;rw [NB] at c;simp only [LY,↓reduceIte,LZ];refine ai ?_;rw [uM];simp only [aj,↓reduceIte,Int.reduceBEq,Int.reduceEq,e,h0,and_self,cw,dR i,b,Lx,n,u,Mq,LG,cS (show a.length+1<=1000000 by omega),next k (by omega)];exact c
  | true=>
   rw [j] at b;have z:=fv j;have c:=m (k+1) (a++fF p k d 0 (d.so - 10).toNat) (kg p k 0 (d.so - 10).toNat ok) l (by omega) (by simp [uq];omega);have v:=BB (p:=p) (ed:=ed) (ds:=ds) (k:=k) (w:=(d.so - 10).toNat) (d:=d) s (by omega) (f d hm) (h d hm) (by omega) (d.so - 10).toNat 0 a ok (by omega) (by omega) c;have y:i64.wrap (d.so - 10)= ((d.so - 10).toNat:Int):=by rw [wr (by omega)];omega
   simp only [↓reduceIte];rw [<-LV];refine ai ?_;rw [uM];simp only [aj,↓reduceIte,Int.reduceBEq,Int.reduceEq,e,h0,and_self,cw,dR i,b,Lv,y];exact v
theorem HJ{p:ByteArray}{ed:Bool}{ds:List Dc}(j:p.size<=100)(hl:ds.length<=100)(b:∀d∈ds,d.ea=true->d.ar= [])(c:∀d∈ds,d.ar.length<=1000):∃x,Or jN [AV.t (T.str p),AV.t (T.af true),B true,AV.t (T.ad 3 ed (aJ ds)),I (ds.length:Int),I 0] []=some [x,tb (fU p 0 ds true && decide ((((cC p 0 ds).length:Nat):Int)<=30))]/\x.au 3=some ((cC p 0 ds).isEmpty,aJ (cC p 0 ds)):=by
 cases a:ds with
 | nil=>refine⟨T.af true,ai ?_,rfl⟩;rw [uL];simp only [aj,↓reduceIte,Int.reduceBEq,Int.reduceEq,LS,L9,Md,decide_false];rfl
 | cons d r=>
  have hm:d∈ds:=by rw [a];exact Lq
  have q:(0:Int) < (((d::r).length:Nat):Int):=by simp
  have h0:(0:Int)<=0:=by omega
  have o:(aJ (d::r))[(0:Int).toNat]? =some [T.str d.nm,T.ad 1 d.ea (enc d.ar),ti d.so]:=rfl;have e:=gM d.so;have y:i64.wrap (0+1)= ((1:Nat):Int):=by decide
  obtain⟨x,i,u⟩:=mq d.ea d.ar (b d hm) (by have:=c d hm;omega);rw [cC,fU];cases l:aH d.so with
  | false=>rw [l] at e;have f:=BA (p:=p) (ed:=ed) (ds:=ds) j hl b c r 1 [d] true (by rw [a];rfl) (by rw [a];simp) (by simp);rw [a] at f;simp only [LY,↓reduceIte,LZ];refine⟨T.ad 3 false (([d] ++cC p (0+1) r).map mZ),ai ?_,rfl⟩;rw [uL];simp only [aj,↓reduceIte,Int.reduceBEq,Int.reduceEq,q,h0,and_self,cw,o,e,Lx,i,u,y];exact f
  | true=>
   rw [l] at e;have F:=fv l;obtain⟨n,C⟩:∃n,(d.so - 10).toNat=n+1:=⟨(d.so - 10).toNat - 1,by omega⟩;have h:dL ((0:Nat):Int):=⟨by omega,by omega⟩;have m:=gG h;have z:p.size+ (it 0).size<=4294967296:=by have:(it 0).size<=21:=m;omega
   have A:(p++it 0).size+1<=4294967296:=by have:(it 0).size<=21:=m;rw [LQ];omega
   have c3:(p++it 0++us).size+ (it 0).size<=4294967296:=by have:(it 0).size<=21:=m;simp only [LQ,fk];omega
   have v:Or (.call 44) [I 0] []=some [T.str (it 0)]:=gO h;have f:=BA (p:=p) (ed:=ed) (ds:=ds) j hl b c r 1 (fF p 0 d 0 (n+1)) (kg p 0 0 (n+1) true) (by rw [a];rfl) (by rw [a];simp) (by rw [uq];omega);have D:=BB (p:=p) (ed:=ed) (ds:=ds) (k:=0) (w:=n+1) (d:=d) j (by omega) (b d hm) (c d hm) (by omega) n 1 [⟨p++it 0++us++it 0,d.ea,d.ar,1⟩] (true && decide (((p++it 0++us++it 0).size:Int)<=12)) (by omega) (by simp;omega) f;have E:i64.wrap (d.so - 10)= ((n+1:Nat):Int):=by rw [wr (by omega)];omega
   have s:(0:Int) < ((n+1:Nat):Int):=by omega
   have g:Or lI [AV.t (T.str p),AV.t (T.af true),B true,I 0,r0,AV.t (T.ad 3 ed (aJ ds)),I (ds.length:Int),I 0,I ((n+1:Nat):Int),I 0] [ab.box [AV.t (T.str d.nm),ad d.ea d.ar,I d.so]]=some [T.ad 3 false ((fF p 0 d 0 (n+1)++cC p 1 r).map mZ),tb (fU p 1 r (kg p 0 0 (n+1) true) && decide ((((fF p 0 d 0 (n+1)++cC p 1 r).length:Nat):Int)<=30))]:=by refine ai ?_;rw [E3];simp only [aj,↓reduceIte,Int.reduceBEq,Int.reduceEq,s,v,z,A,c3,i,u,y,fM];exact D
   rw [a] at g;simp only [↓reduceIte,C];refine⟨T.ad 3 false ((fF p 0 d 0 (n+1)++cC p (0+1) r).map mZ),ai ?_,rfl⟩;rw [uL];simp only [aj,↓reduceIte,Int.reduceBEq,Int.reduceEq,q,h0,and_self,cw,o,e,Lv,E];exact g
theorem Jy{p:ByteArray}{ed en eh:Bool}{ds:List Dc}{ns hs:List (List T)}(f:p.size<=100)(hl:ds.length<=100)(a:∀d∈ds,d.ea=true->d.ar= [])(b:∀d∈ds,d.ar.length<=1000):
  ∃x,Or (.call 26) [AV.agg [AV.t (T.ad 3 ed (aJ ds)),AV.t (T.ad 5 en ns),AV.t (T.ad 1 eh hs)],AV.t (T.str p)] []=some [x,tb (fU p 0 ds true && decide ((((cC p 0 ds).length:Nat):Int)<=30))]/\x.au 3=some ((cC p 0 ds).isEmpty,aJ (cC p 0 ds)):=by
 obtain⟨x,c,e⟩:=HJ (p:=p) (ed:=ed) f hl a b;refine⟨x,ai ?_,e⟩;rw [E0];simp only [cw];exact c
open Go Go.Aev Go.IntKind
def gP(c:Cx)(t:Tr)(M:Mk)(x:Nd)(s:Int):Tr×Mk:=
 if aH s then(⟨t.bits++ [(eO c t M x s).1],t.to++ [0]⟩,(eO c t M x s).2)
 else(⟨t.bits++ [[]],t.to++ [(fB t M x).1]⟩,(fB t M x).2)
def fT(c:Cx):List Nd->List Int->Tr->Mk->Tr×Mk
 | x::r,s::q,t,M=>if 800 < (gP c t M x s).2.N.length then gP c t M x s else fT c r q (gP c t M x s).1 (gP c t M x s).2
 | _,_,t,M=>(t,M)
def qy:List T:= [T.af true,T.af true,T.af true,ti 10,ti 0]
def lB(c:Cx)(q:Tr×Mk):List Nd×List Int:=il q.2.N (c.hs.map (bh q.1))
def jE(c:Cx)(dl:List Dc)(ok:Bool)(q:Tr×Mk):List T:=
 if ok=false\/800 < q.2.N.length then qy
 else if 200 < (lB c q).1.length then qy
 else [T.ad 3 dl.isEmpty (aJ dl),T.ad 5 (lB c q).1.isEmpty (aU (lB c q).1),T.ad 1 (lB c q).2.isEmpty (enc (lB c q).2),ti 0,ti 0]
theorem zV(l:List (List Int))(b:List Int):bd l++ [[LO b]]=bd (l++ [b]):=by simp [bd]
theorem Hj(w:List Int)(h: 1<=w.length):T.ad 1 w.isEmpty (enc w)=LO w:=by cases w with
 | nil=>simp at h
 | cons=>rfl
theorem xq{a:Type}(l:List a)(x:a):(l++ [x]).isEmpty=false:=by cases l <;> rfl
theorem cy.word{c:Cx}{t:Tr}{M f:Mk}{i n:Nat}{s:Int}{w:List Int}(h:cy c t M i)(hs:c.ss[i]? =some s)(r:aH s=true)(u:Up M f n)(hl:(w.length:Int)=s - 10)(o:∀y∈w,In f y):cy c ⟨t.bits++ [w],t.to++ [0]⟩ f (i+1):=by
 have m:=h.up u;refine⟨u.ok,by simp [h.bl],by simp [h.tl],λk s' q a d=> ?_,λk s' q a d=> ?_⟩
 .by_cases e:k=i
  .subst e;rw [hs] at a;simp only [Lo] at a;subst a;exact⟨w,by rw [L7 (by rw [h.bl];exact LM _),h.bl,MY];rfl,hl,o⟩
  .obtain⟨b,g,j,l⟩:=m.w k s' (by omega) a d;exact⟨b,by rw [LL (by rw [h.bl];omega)];exact g,j,l⟩
 .by_cases e:k=i
  .subst e;rw [hs] at a;simp only [Lo] at a;subst a;rw [r] at d;cases d
  .obtain⟨g,v,j,l⟩:=m.p k s' (by omega) a d;exact⟨by rw [LL (by rw [h.bl];omega)];exact g,v,by rw [LL (by rw [h.tl];omega)];exact j,l⟩
theorem cy.plain{c:Cx}{t:Tr}{M f:Mk}{i n:Nat}{s v:Int}(h:cy c t M i)(hs:c.ss[i]? =some s)(r:aH s=false)(u:Up M f n)(o:In f v):cy c ⟨t.bits++ [[]],t.to++ [v]⟩ f (i+1):=by
 have m:=h.up u;refine⟨u.ok,by simp [h.bl],by simp [h.tl],λk s' q a d=> ?_,λk s' q a d=> ?_⟩
 .by_cases e:k=i
  .subst e;rw [hs] at a;simp only [Lo] at a;subst a;rw [r] at d;cases d
  .obtain⟨b,g,j,l⟩:=m.w k s' (by omega) a d;exact⟨b,by rw [LL (by rw [h.bl];omega)];exact g,j,l⟩
 .by_cases e:k=i
  .subst e;exact⟨by rw [L7 (by rw [h.bl];exact LM _),h.bl,MY];rfl,v,by rw [L7 (by rw [h.tl];exact LM _),h.tl,MY];rfl,o⟩
  .obtain⟨g,x,j,l⟩:=m.p k s' (by omega) a d;exact⟨by rw [LL (by rw [h.bl];omega)];exact g,x,by rw [LL (by rw [h.tl];omega)];exact j,l⟩
structure nP (c:Cx):Prop where
 sl:c.ss.length=c.ns.length
 nl:c.ns.length<=200
 dl:c.ds.length<=30
 hl:c.hs.length<=200
 ds:∀d∈c.ds,d.nm.size<=12
 nd:∀(i:Nat) (x:Nd) (s:Int),c.ns[i]? =some x->c.ss[i]? =some s->nZ c i x s
 ho:∀k∈c.hs,0<=k/\c.ss[k.toNat]? =some 1
theorem Dm{c:Cx}(ok:nP c){t:Tr}{M:Mk}{i:Nat}{x:Nd}{s:Int}(d:c.ns[i]? =some x)(hs:c.ss[i]? =some s)(a:cy c t M i)(g:c.p.size<=100)(f:M.N.length<=40000):
  cy c (gP c t M x s).1 (gP c t M x s).2 (i+1)/\Up M (gP c t M x s).2 1000:=by
 unfold gP;cases b:aH s with
 | true=>obtain⟨_,u,e,hl⟩:=DH d hs b (ok.nd i x s d hs) a (by have:=ok.dl;omega) g f;exact⟨a.word hs b u hl e,u⟩
 | false=>obtain⟨_,u,e⟩:=B9 d b (ok.nd i x s d hs) a f;exact⟨a.plain hs b u e,u⟩
abbrev Ep(c:Cx):ab:=ab.box [AV.t (T.ad 3 c.ed (aJ c.ds)),AV.t (T.ad 5 c.en (aU c.ns)),AV.t (T.ad 1 c.eh (enc c.hs))]
abbrev mB:ab:=ab.box [I 0,I 0]
abbrev Dt(c:Cx):ab:=ab.box [AV.ref (Id.c 4) 0,AV.t (T.ad 3 c.ed (aJ c.ds)),AV.t (T.ad 5 c.en (aU c.ns)),AV.t (T.ad 1 c.eh (enc c.hs)),AV.t (T.str c.p),AV.t (T.ad 1 c.es (enc c.ss)),AV.own (Id.c 5),AV.own (Id.c 6)]
theorem Iw{c:Cx}{t:Tr}{M:Mk}{dl:List Dc}{n:Nat}(ok:nP c)(J:n=c.ns.length)(q:cy c t M n)(H:M.N.length<=800):∀(h:List Int) (j:Nat) (a:List Int),c.hs.drop j=h->j<=c.hs.length->a.length=j->a++h.map (bh t)=c.hs.map (bh t)->
  Or nY [AV.ref (Id.c 0) 0,AV.ref (Id.c 1) 0,AV.ref (Id.c 2) 0,AV.ref (Id.c 3) 0,ad c.eh c.hs,I (c.hs.length:Int),I (j:Int)] [cA,mB,Dt c,ab.box [AV.t (T.ad 3 dl.isEmpty (aJ dl)),AV.own (Id.c 7),AV.own (Id.c 8)],ab.box [AV.own (Id.c 7),AV.own (Id.c 9)],ab.sl false 1 t.bits.isEmpty (bd t.bits),ab.sl false 1 t.to.isEmpty (enc t.to),ab.rows M.N.isEmpty 5 1 1 M.N.length (rows M.N),ab.sl false 1 a.isEmpty (enc a),ab.mp false [Ck.s] (Ck.i .i64) (bR M.K)]=some (jE c dl true (t,M)):=by
 have m:∀k∈c.hs,0<=k/\t.to[k.toNat]? =some (bh t k)/\In M (bh t k):=λk l=>by obtain⟨d,b⟩:=ok.ho k l;have F:k.toNat < c.ss.length:=(Ls.1 b).1;have u:KW c n k 1:=⟨d,by have:=ok.sl;omega,b⟩;exact⟨d,(u.plain q sQ).2⟩
 intro h;induction h with
 | nil=>
  intro j a g B e f;have d:¬(j:Int) < (c.hs.length:Int):=by have:=br g;omega
  rw [MD,LW] at f;have w:=JL (N:=M.N) (eh:=a.isEmpty) (ed:=dl.isEmpty) (hold:=a) (ds:=aJ dl) (by omega) (by have:=ok.hl;omega) (λx C=>by obtain⟨i,A⟩:=MA C;exact q.ok.kl i x A) q.ok.ks (λk l=>by
   rw [f] at l;obtain⟨E,hm,rfl⟩:=L4.1 l;exact(m E hm).2.2)
  unfold jE lB;rw [<-f];refine ai ?_;rw [zQ];simp only [aj,↓reduceIte,Int.reduceBEq,Int.reduceEq,d,w,Hi,cv];have o:¬(true=false\/800 < M.N.length):=by simp;omega
  rw [if_neg o];by_cases b: 200 < (il M.N a).1.length
  .have p:((aU (il M.N a).1).length:Int) > 200:=by rw [cO];omega
   rw [if_pos b];simp only [aj,↓reduceIte,Int.reduceBEq,Int.reduceEq,p,decide_true];rfl
  .have p:¬((aU (il M.N a).1).length:Int) > 200:=by rw [cO];omega
   rw [if_neg b];simp only [aj,↓reduceIte,Int.reduceBEq,Int.reduceEq,p,decide_false]
 | cons k h D=>
  intro j a g B e f;obtain⟨r,G,z⟩:=bu g;have d:(j:Int) < (c.hs.length:Int):=by omega
  have h0: 0<=(j:Int):=by omega
  obtain⟨L,y,_⟩:=m k (LB r);have b: 0<=k/\k < (t.to.length:Int):=by have:=(Ls.1 y).1;omega
  have v:=D (j+1) (a++ [bh t k]) z (by omega) (by simp [e]) (by rw [<-f];simp);rw [xq] at v;refine ai ?_;rw [zQ];simp only [aj,↓reduceIte,Int.reduceBEq,Int.reduceEq,d,h0,and_self,aD,bJ r,b,eC y,LG,cS (show a.length+1<=1000000 by have:=ok.hl;omega),next j (by have:=ok.hl;omega),dS];exact v
abbrev M9(c:Cx)(t:Tr)(M:Mk):List ab:= [Ep c,cA,mB,Dt c,ab.box [AV.own (Id.c 7),AV.own (Id.c 8)],ab.sl false 1 t.bits.isEmpty (bd t.bits),ab.sl false 1 t.to.isEmpty (enc t.to),ab.rows M.N.isEmpty 5 1 1 M.N.length (rows M.N),ab.mp false [Ck.s] (Ck.i .i64) (bR M.K)]
theorem Ix{c:Cx}{dl:List Dc}{okb:Bool}(ok:nP c)(F:c.p.size<=100):∀(rn:List Nd) (rs:List Int) (i:Nat) (t:Tr) (M:Mk),c.ns.drop i=rn->c.ss.drop i=rs->i<=c.ns.length->cy c t M i->M.N.length<=800->
  Or pG [r0,r1,AV.ref (Id.c 2) 0,ad c.es c.ss,AV.t (T.ad 3 dl.isEmpty (aJ dl)),B okb,AV.ref (Id.c 3) 0,I (c.ns.length:Int),I (i:Int)] (M9 c t M)=some (jE c dl okb (fT c rn rs t M)):=by
 intro rn;induction rn with
 | nil=>
  intro rs i t M o w K f A;have k:¬(i:Int) < (c.ns.length:Int):=by have:=br o;omega
  have D:i=c.ns.length:=by have:=br o;omega
  have a:¬(M.N.length:Int) > 800:=by omega
  have y:fT c [] rs t M= (t,M):=by simp [fT]
  rw [y];cases okb with
  | false=>refine ai ?_;rw [oD];simp only [aj,↓reduceIte,Int.reduceBEq,Int.reduceEq,k,Lx];rfl
  | true=>have m:=Iw (dl:=dl) ok D f A c.hs 0 [] rfl (Nv _) rfl rfl;refine ai ?_;rw [oD];simp only [aj,↓reduceIte,Int.reduceBEq,Int.reduceEq,k,Lv,aO,a,decide_false,aD];exact m
 | cons x rn L=>
  intro rs i t M o w K f A;obtain⟨n,P,H⟩:=bu o;cases rs with
  | nil=>exact absurd (br w) (by have:=ok.sl;omega)
  | cons s rs=>
   obtain⟨g,Q,J⟩:=bu w;have k:(i:Int) < (c.ns.length:Int):=by omega
   have q: 0<=(i:Int)/\(i:Int) < (c.ss.length:Int):=by omega
   have e:=gM s;obtain⟨fY,iJ⟩:=Dm ok n g f F (by omega);have d:=λa=>L rs (i+1) _ _ H J (by omega) fY a;have G:=next i (by have:=ok.nl;omega);rw [fT];cases l:aH s with
   | true=>
    rw [l] at e;obtain⟨r,u,C,hl⟩:=DH n g l (ok.nd i x s n g) f (by have:=ok.dl;omega) F (by omega);have O:=fv l;have es:gP c t M x s= (⟨t.bits++ [(eO c t M x s).1],t.to++ [0]⟩,(eO c t M x s).2):=by unfold gP;rw [l];rfl
    rw [es] at d fY⊢;dsimp only at d fY⊢;have h:bq 24 (t.bits.length+1)=some ():=cS (by have:=f.bl;have:=ok.nl;omega);have j:bq 8 (t.to.length+1)=some ():=cS (by have:=f.tl;have:=ok.nl;omega);have E:=Hj (eO c t M x s).1 (by omega);have y: [T.int i64 0]= [ti 0]:=rfl;by_cases a: 800 < (eO c t M x s).2.N.length
    .have b:((eO c t M x s).2.N.length:Int) > 800:=by omega
     rw [if_pos a];have er:jE c dl okb (⟨t.bits++ [(eO c t M x s).1],t.to++ [0]⟩,(eO c t M x s).2)=qy:=by unfold jE;rw [if_pos (.inr a)]
     rw [er];refine ai ?_;rw [oD];simp (maxSteps:=1000000) only [aj,↓reduceIte,Int.reduceBEq,Int.reduceEq,k,q,and_self,aD,bJ g,e,r,aT,aS,Lt,aR,aO,cI,cJ,cv,lS,LG,h,j,b,decide_true];cases okb <;> rfl
    .have b:¬((eO c t M x s).2.N.length:Int) > 800:=by omega
     rw [if_neg a];have m:=d (by omega);simp only [M9,xq] at m;refine ai ?_;rw [oD];simp (maxSteps:=1000000) only [aj,↓reduceIte,Int.reduceBEq,Int.reduceEq,k,q,and_self,aD,bJ g,e,r,aT,aS,Lt,aR,aO,cI,cJ,cv,lS,LG,h,j,b,decide_false,E,zV,dS,G];exact m
   | false=>
    rw [l] at e;obtain⟨v,u,C⟩:=B9 n l (ok.nd i x s n g) f (by omega);have es:gP c t M x s= (⟨t.bits++ [[]],t.to++ [(fB t M x).1]⟩,(fB t M x).2):=by unfold gP;rw [l];rfl
    rw [es] at d fY⊢;dsimp only at d fY⊢;have h:bq 24 (t.bits.length+1)=some ():=cS (by have:=f.bl;have:=ok.nl;omega);have j:bq 8 (t.to.length+1)=some ():=cS (by have:=f.tl;have:=ok.nl;omega);by_cases a: 800 < (fB t M x).2.N.length
    .have b:((fB t M x).2.N.length:Int) > 800:=by omega
     rw [if_pos a];have er:jE c dl okb (⟨t.bits++ [[]],t.to++ [(fB t M x).1]⟩,(fB t M x).2)=qy:=by unfold jE;rw [if_pos (.inr a)]
     rw [er];refine ai ?_;rw [oD];simp (maxSteps:=1000000) only [aj,↓reduceIte,Int.reduceBEq,Int.reduceEq,k,q,and_self,aD,bJ g,e,v,aT,aS,Lt,aR,aO,cI,cJ,cv,lS,LG,h,j,b,decide_true];cases okb <;> rfl
    .have b:¬((fB t M x).2.N.length:Int) > 800:=by omega
     rw [if_neg a];have m:=d (by omega);simp only [M9,xq] at m;have z:bd t.bits++ [[T.af true]]=bd (t.bits++ [[]]):=zV t.bits [];refine ai ?_;rw [oD];simp (maxSteps:=1000000) only [aj,↓reduceIte,Int.reduceBEq,Int.reduceEq,k,q,and_self,aD,bJ g,e,v,aT,aS,Lt,aR,aO,cI,cJ,cv,lS,LG,h,j,b,decide_false,z,dS,G];exact m
open Go Go.Aev Go.IntKind
structure As where
 ed:Bool
 ds:List Dc
 en:Bool
 ns:List Nd
 eh:Bool
 hs:List Int
abbrev AG(a:As):AV:=AV.agg [AV.t (T.ad 3 a.ed (aJ a.ds)),AV.t (T.ad 5 a.en (aU a.ns)),AV.t (T.ad 1 a.eh (enc a.hs))]
abbrev mN(a:As):ab:=ab.box [AV.t (T.ad 3 a.ed (aJ a.ds)),AV.t (T.ad 5 a.en (aU a.ns)),AV.t (T.ad 1 a.eh (enc a.hs))]
structure lD (a:As):Prop where
 d:∀d∈a.ds,d.ea=true->d.ar= []
 n:∀x∈a.ns,x.ek=true->x.ks= []
 h:a.eh=true->a.hs= []
theorem Gq(l:List Dc)(d:Dc):aJ l++ [[T.str d.nm,T.ad 1 d.ea (enc d.ar),T.int .i64 d.so]]=aJ (l++ [d]):=by simp [aJ]
theorem zW(l:List Nd)(x:Nd):aU l++ [[T.int .i64 x.op,T.ad 1 x.ek (enc x.ks),T.int .i64 x.n,T.int .i64 x.d,T.str x.nm]]=aU (l++ [x]):=by simp [aU]
theorem HG{e eh:Bool}{ns:List Nd}{hs:List Int}{dl:List (List T)}(hl:ns.length<=1000)(o:∀x∈ns,x.ek=true->x.ks= [])(h:∀x∈ns,x.ks.length<=1000):∀(r:List Nd) (i:Nat) (a:List Nd),ns.drop i=r->i<=ns.length->a.length=i->
  Or gg [r0,r1,AV.t (T.ad 5 e (aU ns)),I (ns.length:Int),I (i:Int)] [cA,ab.box [o2,o3,o4],ab.sl false 3 false dl,ab.sl false 5 false (aU a),ab.sl false 1 eh (enc hs)]=some [T.ad 3 false dl,T.ad 5 false (aU (a++r)),T.ad 1 eh (enc hs)]/\
  Or gg [r0,r1,AV.t (T.ad 5 e (aU ns)),I (ns.length:Int),I (i:Int)] [cA,ab.box [AV.t (T.af true),o2,o3],ab.sl false 5 false (aU a),ab.sl false 1 eh (enc hs)]=some [T.af true,T.ad 5 false (aU (a++r)),T.ad 1 eh (enc hs)]:=by
 intro r;induction r with
 | nil=>
  intro i a g n c;have b:¬(i:Int) < (ns.length:Int):=by have:=br g;omega
  rw [LW];refine⟨ai ?_,ai ?_⟩
  .rw [yY];simp only [aj,↓reduceIte,Int.reduceBEq,Int.reduceEq,b]
  .rw [yX];simp only [aj,↓reduceIte,Int.reduceBEq,Int.reduceEq,b]
 | cons x r p=>
  intro i a g n c;obtain⟨f,q,m⟩:=bu g;have hm:=LB f;have b:(i:Int) < (ns.length:Int):=by omega
  have h0: 0<=(i:Int):=by omega
  obtain⟨y,d,j⟩:=mq x.ek x.ks (o x hm) (by have:=h x hm;omega);obtain⟨k,l⟩:=p (i+1) (a++ [x]) m (by omega) (by simp [c]);simp only [LV,LZ] at k l;refine⟨ai ?_,ai ?_⟩
  .rw [yY];simp only [aj,↓reduceIte,Int.reduceBEq,Int.reduceEq,b,h0,and_self,cO,ef f,d,j,LG,cS (show a.length+1<=1000000 by omega),next i (by omega),zW];exact k
  .rw [yX];simp only [aj,↓reduceIte,Int.reduceBEq,Int.reduceEq,b,h0,and_self,cO,ef f,d,j,LG,cS (show a.length+1<=1000000 by omega),next i (by omega),zW];exact l
theorem HH{e eh:Bool}{ns:List Nd}{hs:List Int}{dl:List (List T)}(hl:ns.length<=1000)(h:∀x∈ns,x.ek=true->x.ks= [])(b:∀x∈ns,x.ks.length<=1000):
  (∃z,Or gg [r0,r1,AV.t (T.ad 5 e (aU ns)),I (ns.length:Int),I 0] [cA,ab.box [o2,AV.t (T.af true),o3],ab.sl false 3 false dl,ab.sl false 1 eh (enc hs)]=some [T.ad 3 false dl,z,T.ad 1 eh (enc hs)]/\z.au 5=some (ns.isEmpty,aU ns))/\
  (∃z,Or gg [r0,r1,AV.t (T.ad 5 e (aU ns)),I (ns.length:Int),I 0] [cA,ab.box [AV.t (T.af true),AV.t (T.af true),o2],ab.sl false 1 eh (enc hs)]=some [T.af true,z,T.ad 1 eh (enc hs)]/\z.au 5=some (ns.isEmpty,aU ns)):=by
 cases a:ns with
 | nil=>
  refine⟨⟨T.af true,ai ?_,rfl⟩,⟨T.af true,ai ?_,rfl⟩⟩
  .rw [yW];simp only [aj,↓reduceIte,Int.reduceBEq,Int.reduceEq,LS,L9,Md,decide_false]
  .rw [yV];simp only [aj,↓reduceIte,Int.reduceBEq,Int.reduceEq,LS,L9,Md,decide_false]
 | cons x r=>
  have hm:x∈ns:=by rw [a];exact Lq
  have g:(0:Int) < (((x::r).length:Nat):Int):=by simp
  have h0:(0:Int)<=0:=by omega
  have f:(aU (x::r))[(0:Int).toNat]? =some [ti x.op,T.ad 1 x.ek (enc x.ks),ti x.n,ti x.d,T.str x.nm]:=rfl;have j:i64.wrap (0+1)= ((1:Nat):Int):=by decide
  obtain⟨y,c,i⟩:=mq x.ek x.ks (h x hm) (by have:=b x hm;omega);obtain⟨k,l⟩:=HG (e:=e) (eh:=eh) (ns:=ns) (hs:=hs) (dl:=dl) hl h b r 1 [x] (by rw [a];rfl) (by rw [a];simp) rfl;rw [a] at k l;refine⟨⟨T.ad 5 false (aU ([x] ++r)),ai ?_,rfl⟩,⟨T.ad 5 false (aU ([x] ++r)),ai ?_,rfl⟩⟩
  .rw [yW];simp only [aj,↓reduceIte,Int.reduceBEq,Int.reduceEq,g,h0,and_self,cO,f,c,i,j];exact k
  .rw [yV];simp only [aj,↓reduceIte,Int.reduceBEq,Int.reduceEq,g,h0,and_self,cO,f,c,i,j];exact l
theorem HF{a:As}{e eh:Bool}{hs:List Int}(hl:a.ds.length<=1000)(s:∀d∈a.ds,d.ea=true->d.ar= [])(l:∀d∈a.ds,d.ar.length<=1000){z:T}
  (m:Or gg [r0,r1,AV.t (T.ad 5 a.en (aU a.ns)),I (a.ns.length:Int),I 0] [cA,ab.box [o2,AV.t (T.af true),o3],ab.sl false 3 false (aJ a.ds),ab.sl false 1 eh (enc hs)]=some [T.ad 3 false (aJ a.ds),z,T.ad 1 eh (enc hs)]):∀(r:List Dc) (i:Nat) (b:List Dc),a.ds.drop i=r->i<=a.ds.length->b.length=i->b++r=a.ds->
  Or lH [r0,r1,AV.ref (Id.c 2) 0,AV.t (T.ad 3 e (aJ a.ds)),I (a.ds.length:Int),I (i:Int)] [mN a,cA,ab.box [o3,AV.t (T.af true),o4],ab.sl false 3 false (aJ b),ab.sl false 1 eh (enc hs)]=some [T.ad 3 false (aJ a.ds),z,T.ad 1 eh (enc hs)]:=by
 intro r;induction r with
 | nil=>
  intro i b g p h f;have j:¬(i:Int) < (a.ds.length:Int):=by have:=br g;omega
  rw [LW] at f;rw [<-f] at m;refine ai ?_;rw [yU,<-f];rw [<-f] at j;simp only [aj,↓reduceIte,Int.reduceBEq,Int.reduceEq,j,cO];exact m
 | cons d r v=>
  intro i b g p h f;obtain⟨k,w,o⟩:=bu g;have hm:=LB k;have j:(i:Int) < (a.ds.length:Int):=by omega
  have h0: 0<=(i:Int):=by omega
  obtain⟨y,n,u⟩:=mq d.ea d.ar (s d hm) (by have:=l d hm;omega);have q:=v (i+1) (b++ [d]) o (by omega) (by simp [h]) (by rw [<-f];simp);refine ai ?_;rw [yU];simp only [aj,↓reduceIte,Int.reduceBEq,Int.reduceEq,j,h0,and_self,cw,dR k,n,u,LG,cS (show b.length+1<=1000000 by omega),next i (by omega),Gq];exact q
theorem Jw{a:As}(wf:lD a)(l:a.ds.length<=1000)(o:a.ns.length<=1000)(G:a.hs.length<=1000)(f:∀d∈a.ds,d.ar.length<=1000)(m:∀x∈a.ns,x.ks.length<=1000):
  ∃x y z,Or (.call 24) [AG a] []=some [x,y,z]/\x.au 3=some (a.ds.isEmpty,aJ a.ds)/\y.au 5=some (a.ns.isEmpty,aU a.ns)/\z.au 1=some (a.eh,enc a.hs):=by
 obtain⟨v,g,p⟩:=mq a.eh a.hs wf.h (by omega);obtain⟨⟨q,B,C⟩,⟨s,D,E⟩⟩:=HH (e:=a.en) (eh:=a.eh) (ns:=a.ns) (hs:=a.hs) (dl:=aJ a.ds) o wf.n m;cases b:a.ds with
 | nil=>
  have i:Or lH [r0,r1,AV.ref (Id.c 2) 0,AV.t (T.ad 3 a.ed (aJ a.ds)),I (a.ds.length:Int),I 0] [mN a,cA,ab.box [AV.t (T.af true),AV.t (T.af true),o3],ab.sl false 1 a.eh (enc a.hs)]=some [T.af true,s,T.ad 1 a.eh (enc a.hs)]:=by refine ai ?_;rw [yT,b];simp only [aj,↓reduceIte,Int.reduceBEq,Int.reduceEq,LS,L9,Md,decide_false,cO];exact D
  refine⟨T.af true,s,T.ad 1 a.eh (enc a.hs),ai ?_,rfl,E,by rw [dO]⟩;rw [yS];simp only [aj,↓reduceIte,Int.reduceBEq,Int.reduceEq,g,p,cw];exact i
 | cons d r=>
  have hm:d∈a.ds:=by rw [b];exact Lq
  have j:=HF (a:=a) (e:=a.ed) (eh:=a.eh) (hs:=a.hs) l wf.d f B r 1 [d] (by rw [b];rfl) (by rw [b];simp) rfl (by rw [b];rfl);have w:(0:Int) < (((d::r).length:Nat):Int):=by simp
  have h0:(0:Int)<=0:=by omega
  have u:(aJ (d::r))[(0:Int).toNat]? =some [T.str d.nm,T.ad 1 d.ea (enc d.ar),ti d.so]:=rfl;have F:i64.wrap (0+1)= ((1:Nat):Int):=by decide
  obtain⟨y,k,A⟩:=mq d.ea d.ar (wf.d d hm) (by have:=f d hm;omega);have i:Or lH [r0,r1,AV.ref (Id.c 2) 0,AV.t (T.ad 3 a.ed (aJ a.ds)),I (a.ds.length:Int),I 0] [mN a,cA,ab.box [AV.t (T.af true),AV.t (T.af true),o3],ab.sl false 1 a.eh (enc a.hs)]=some [T.ad 3 false (aJ a.ds),q,T.ad 1 a.eh (enc a.hs)]:=by refine ai ?_;rw [yT,b];rw [b] at j;simp only [aj,↓reduceIte,Int.reduceBEq,Int.reduceEq,w,h0,and_self,cw,u,k,A,F];rw [<-b] at j⊢;exact j
  refine⟨T.ad 3 false (aJ a.ds),q,T.ad 1 a.eh (enc a.hs),ai ?_,by rw [b];rfl,C,by rw [dO]⟩;rw [yS];simp only [aj,↓reduceIte,Int.reduceBEq,Int.reduceEq,g,p,cw];exact i
def iT(a:As)(es:Bool)(ss:List Int):Cx:=⟨a.ed,a.ds,a.en,a.ns,a.eh,a.hs,cQ a.ds,es,ss⟩
def r6(a:As)(es:Bool)(ss:List Int):List T:=
 if nN a.ds ss then jE (iT a es ss) (cC (cQ a.ds) 0 a.ds) (fU (cQ a.ds) 0 a.ds true && decide ((((cC (cQ a.ds) 0 a.ds).length:Nat):Int)<=30)) (fT (iT a es ss) a.ns ss ⟨[],[]⟩ ⟨[],[]⟩)
 else [T.ad 3 a.ds.isEmpty (aJ a.ds),T.ad 5 a.ns.isEmpty (aU a.ns),T.ad 1 a.eh (enc a.hs),ti 0,ti 0]
theorem s9{a:As}{es:Bool}{ss:List Int}(wf:lD a)(ok:nP (iT a es ss))(e:∀d∈a.ds,d.ar.length<=1000){x:T}(g:Or (.call 22) [AG a] []=some [x,ti 0,ti 0])(o:x.au 1=some (es,enc ss)):
  Or (.call 9) [AG a] []=some (r6 a es ss):=by
 have D:a.ds.length<=30:=ok.dl;have F:a.ns.length<=200:=ok.nl;have E:a.hs.length<=200:=ok.hl;have m:ss.length=a.ns.length:=ok.sl;have f:∀d∈a.ds,d.nm.size<=12:=ok.ds;have b:=Jv (ed:=a.ed) (en:=a.en) (eh:=a.eh) (es:=es) (ds:=a.ds) (ns:=aU a.ns) (hs:=enc a.hs) (ss:=ss) (by omega) (by omega);unfold r6;cases n:nN a.ds ss with
 | false=>
  rw [n] at b;obtain⟨H,I,J,q,v,w,z⟩:=Jw wf (by omega) (by omega) (by omega) e (λx hm=>by
   obtain⟨i,j⟩:=MA hm;have l:i < ss.length:=by rw [m];exact(Ls.1 j).1
   have:=(ok.nd i x _ j (Ly l)).kl;omega)
  refine ai ?_;rw [e9];simp only [aj,↓reduceIte,Int.reduceBEq,Int.reduceEq,g,o,Lv,b,Lx,q,v,w,z];rfl
 | true=>
  rw [n] at b;have r:=Jx (ed:=a.ed) (en:=a.en) (eh:=a.eh) (ns:=aU a.ns) (hs:=enc a.hs) (show a.ds.length<=100 by omega) f;have G:(cQ a.ds).size<=12:=wM f 11 us (by rw [fk];omega);obtain⟨y,u,C⟩:=Jy (p:=cQ a.ds) (ed:=a.ed) (en:=a.en) (eh:=a.eh) (ds:=a.ds) (ns:=aU a.ns) (hs:=enc a.hs) (by omega) (by omega) wf.d e;have h0:cy (iT a es ss) ⟨[],[]⟩ ⟨[],[]⟩ 0:=⟨⟨λi x h=>(by simp at h),λi x h=>(by simp at h),λp h=>(by cases h),λi x h=>(by simp at h),λi x h=>(by simp at h)⟩,rfl,rfl,λk s h=>by omega,λk s h=>by omega⟩;have hl:=Ix (dl:=cC (cQ a.ds) 0 a.ds) (okb:=fU (cQ a.ds) 0 a.ds true && decide ((((cC (cQ a.ds) 0 a.ds).length:Nat):Int)<=30)) ok (show(cQ a.ds).size<=100 by omega) a.ns ss 0 ⟨[],[]⟩ ⟨[],[]⟩ rfl rfl (Nv _) h0 (by simp);have A:Or ud [r0,r1,AV.ref (Id.c 2) 0,ad es ss,AV.t (T.ad 3 (cC (cQ a.ds) 0 a.ds).isEmpty (aJ (cC (cQ a.ds) 0 a.ds))),B (fU (cQ a.ds) 0 a.ds true && decide ((((cC (cQ a.ds) 0 a.ds).length:Nat):Int)<=30)),AV.ref (Id.c 3) 0,AV.ref (Id.c 3) 0,AV.ref (Id.c 4) 0] (M9 (iT a es ss) ⟨[],[]⟩ ⟨[],[]⟩)=some (jE (iT a es ss) (cC (cQ a.ds) 0 a.ds) (fU (cQ a.ds) 0 a.ds true && decide ((((cC (cQ a.ds) 0 a.ds).length:Nat):Int)<=30)) (fT (iT a es ss) a.ns ss ⟨[],[]⟩ ⟨[],[]⟩)):=by refine ai ?_;rw [Gm];simp only [cO];exact hl
  simp only [↓reduceIte];refine ai ?_;rw [e9];simp only [aj,↓reduceIte,Int.reduceBEq,Int.reduceEq,g,o,Lv,b,r,u,C];exact A
end Go.Aev.Gen
