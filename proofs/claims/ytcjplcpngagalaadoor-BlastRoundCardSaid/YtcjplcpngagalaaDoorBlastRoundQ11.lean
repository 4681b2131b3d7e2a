import Derived.Test.YtcjplcpngagalaaDoorBlastRoundQ10
import Derived.Lib.IndexBytes
set_option linter.all false
namespace Go.Aev.Gen
open Go Go.Aev Go.IntKind
def kY(k:Nat)(p:Nd×Bool):Row:=Row.mk k [ti p.1.op,T.ao,ti p.1.n,ti p.1.d,T.str p.1.nm] (cond p.2 none (some (p.1.ek,enc p.1.ks)))
def eE:Nat->List (Nd×Bool)->List Row
 | _,[]=> []
 | k,p::r=>kY k p::eE (k+1) r
theorem s7:∀(k:Nat) (l:List (Nd×Bool)),(eE k l).length=l.length
 | _,[]=>rfl
 | k,p::r=>by rw [eE,QJ,s7,QJ]
theorem FN:∀{k:Nat} {l:List (Nd×Bool)} {i:Nat} {p:Nd×Bool},l[i]? =some p->(eE k l)[i]? =some (kY (k+i) p)
 | _,[],_,_,h=>by simp at h
 | k,y::r,0,x,h=>by simp at h;subst h;rfl
 | k,y::r,i+1,x,h=>by rw [eE,RZ,FN (by simpa using h),show k+1+i=k+ (i+1) by omega]
theorem FM:∀{k:Nat} {l:List (Nd×Bool)} {i:Nat} {x:Nd},l[i]? =some (x,false)->cy (k+i) (eE k l)=some (x.ek,enc x.ks)
 | _,[],_,_,h=>by simp at h
 | k,y::r,0,x,h=>by simp at h;subst h;simp [eE,kY,cy]
 | k,y::r,i+1,x,h=>by have a:=FM (k:=k+1) (l:=r) (i:=i) (x:=x) (by simpa using h);rw [show k+1+i=k+ (i+1) by omega] at a;rw [eE,cy,if_neg (by simp [kY]),a]
theorem FP{ks:List Int}:∀{k:Nat} {l:List (Nd×Bool)} {i:Nat} {x:Nd} {g:Bool},l[i]? =some (x,g)->cU (k+i) (some (x.ek,enc ks)) (eE k l)=eE k (l.set i (⟨x.op,x.ek,ks,x.n,x.d,x.nm⟩,false))
 | _,[],_,_,_,h=>by simp at h
 | k,y::r,0,x,g,h=>by simp at h;subst h;simp [eE,kY,cU]
 | k,y::r,i+1,x,g,h=>by have a:=FP (ks:=ks) (k:=k+1) (l:=r) (i:=i) (x:=x) (g:=g) (by simpa using h);rw [show k+1+i=k+ (i+1) by omega] at a;rw [eE,cU,if_neg (by simp [kY]),a,SL,eE]
theorem FO:∀{k:Nat} {l:List (Nd×Bool)} {i:Nat} {x:Nd} {g:Bool},l[i]? =some (x,g)->cU (k+i) none (eE k l)=eE k (l.set i (x,true))
 | _,[],_,_,_,h=>by simp at h
 | k,y::r,0,x,g,h=>by simp at h;subst h;simp [eE,kY,cU]
 | k,y::r,i+1,x,g,h=>by have a:=FO (k:=k+1) (l:=r) (i:=i) (x:=x) (g:=g) (by simpa using h);rw [show k+1+i=k+ (i+1) by omega] at a;rw [eE,cU,if_neg (by simp [kY]),a,SL,eE]
theorem FL:∀(k:Nat) (l:List Nd),eE k (l.map λx=>(x,false))=fB k l
 | _,[]=>rfl
 | k,x::r=>by rw [Rc,eE,FL (k+1) r];rfl
def dU(l:List Bool):List (List T):=l.map λb=> [tb b]
theorem lI(l:List Bool):(dU l).length=l.length:=by simp [dU]
theorem oL{l:List Bool}{i:Nat}{b:Bool}(h:l[i]? =some b):(dU l)[i]? =some [tb b]:=by simp [dU,h]
theorem GA{l:List Bool}{i:Nat}(v:Bool)(h:i < l.length):gL i 0 [tb v] (dU l)=some (dU (l.set i v)):=by unfold gL;rw [oL (QK h)];simp [cm,dU]
theorem wz{l:List Int}{i:Nat}(v:Int)(h:i < l.length):gL i 0 [ti v] (enc l)=some (enc (l.set i v)):=by unfold gL;rw [fj (QK h)];simp [cm,enc]
def dX(need:List Bool):List Int->List Bool
 | []=>need
 | k::r=>dX (need.set k.toNat true) r
theorem qH:∀(ks:List Int) (need:List Bool),(dX need ks).length=need.length
 | [],_=>rfl
 | k::r,need=>by rw [dX,qH r,SE]
def back(N:List Nd)(need:List Bool):Nat->List Bool
 | 0=>need
 | i+1=>back N (if need.getD i false then dX need ((N.getD i ⟨0,true,[],0,0,s0⟩).ks) else need) i
theorem AW(N:List Nd):∀(i:Nat) (need:List Bool),(back N need i).length=need.length
 | 0,_=>rfl
 | i+1,need=>by rw [back,AW N i];split <;> simp [qH]
def eA(need:List Bool):Nat->List Nd->List Int->List Nd->List Int×List Nd
 | _,[],to,out=>(to,out)
 | i,x::r,to,out=>
  if need.getD i false then eA need (i+1) r (to.set i (out.length:Int)) (out++ [⟨x.op,x.ek,x.ks.map λk=>(to.set i (out.length:Int)).getD k.toNat 0,x.n,x.d,x.nm⟩])
  else eA need (i+1) r to out
def jf(N:List Nd)(hold:List Int):List Nd×List Int:=
 let need:=back N (dX (List.replicate N.length false) hold) N.length;let q:=eA need 0 N (List.replicate N.length 0) []
 (q.2,hold.map λk=>q.1.getD k.toNat 0)
abbrev cL:ad:=ad.box [AV.t (T.ae true),AV.t (T.ae true),AV.t (T.ae true)]
theorem Mi{N:List Nd}{eh:Bool}{hold:List Int}{ed:Bool}{ds:List (List T)}(hl:hold.length<=1000){r:List T}:∀(a:List Int) (j:Nat) (need:List Bool),hold.drop j=a->need.length=N.length->N.length<=100000->(∀k∈a,0<=k/\k < (N.length:Int))->
  Or l5 [Y'2,Y'3,o4,I ((N.length:Int) - 1)] [ad.rows N.isEmpty 5 1 1 N.length (rows N),ad.sl false 1 eh (enc hold),ad.box [AV.t (T.ab 3 ed ds),o0,o1],cL,ad.sl false 1 false (dU (dX need a))]=some r->
  Or tG [Y'2,Y'3,o4,o1,I (hold.length:Int),I (j:Int)] [ad.rows N.isEmpty 5 1 1 N.length (rows N),ad.sl false 1 eh (enc hold),ad.box [AV.t (T.ab 3 ed ds),o0,o1],cL,ad.sl false 1 false (dU need)]=some r:=by
 intro a;induction a with
 | nil=>
  intro j need g f h e b;have d:¬(j:Int) < (hold.length:Int):=by have:=bh g;omega
  have w:i64.wrap ((N.length:Int) - 1)= (N.length:Int) - 1:=wr (by omega);rw [dX] at b;refine ah ?_;rw [B0];simp only [aj,↓reduceIte,d,lI,f,w];exact b
 | cons k a u=>
  intro j need g f h e b;obtain⟨n,x,o⟩:=bm g;have d:(j:Int) < (hold.length:Int):=by omega
  have h0: 0<=(j:Int):=by omega
  have v:=e k QA;have p: 0<=k/\k < (need.length:Int):=by omega
  have m:=GA (l:=need) (i:=k.toNat) true (by omega);rw [dX] at b;have s:=u (j+1) (need.set k.toNat true) o (by simp [f]) h (λy q=>e y (QB _ q)) b;refine ah ?_;rw [B0];simp only [aj,↓reduceIte,d,h0,and_self,aC,bH n,lI,p,m,next j (by omega)];exact s
theorem Mh{N:List Nd}{eh:Bool}{hold:List Int}{ed:Bool}{ds:List (List T)}{i:Nat}{x:Nd}(m:N[i]? =some x)(z:x.ks.length<=1000)(B:N.length<=100000){r:List T}:∀(a:List Int) (j:Nat) (need:List Bool),x.ks.drop j=a->need.length=N.length->(∀k∈a,0<=k/\k < (N.length:Int))->
  Or l5 [Y'2,Y'3,o4,I ((i:Int) - 1)] [ad.rows N.isEmpty 5 1 1 N.length (rows N),ad.sl false 1 eh (enc hold),ad.box [AV.t (T.ab 3 ed ds),o0,o1],cL,ad.sl false 1 false (dU (dX need a))]=some r->
  Or tF [Y'2,Y'3,o4,I (i:Int),AV.row (Id.c 0) i,I (x.ks.length:Int),I (j:Int)] [ad.rows N.isEmpty 5 1 1 N.length (rows N),ad.sl false 1 eh (enc hold),ad.box [AV.t (T.ab 3 ed ds),o0,o1],cL,ad.sl false 1 false (dU need)]=some r:=by
 have C:i < N.length:=(QC.1 m).1;intro a;induction a with
 | nil=>
  intro j need g f e b;have d:¬(j:Int) < (x.ks.length:Int):=by have:=bh g;omega
  have w:i64.wrap ((i:Int) - 1)= (i:Int) - 1:=wr (by omega);rw [dX] at b;refine ah ?_;rw [BX];simp only [aj,↓reduceIte,d,w];exact b
 | cons k a u=>
  intro j need g f e b;obtain⟨n,A,o⟩:=bm g;have d:(j:Int) < (x.ks.length:Int):=by omega
  have h0: 0<=(j:Int):=by omega
  have v:=e k QA;have p: 0<=k/\k < (need.length:Int):=by omega
  have h:=GA (l:=need) (i:=k.toNat) true (by omega);rw [dX] at b;have s:=u (j+1) (need.set k.toNat true) o (by simp [f]) (λy q=>e y (QB _ q)) b;refine ah ?_;rw [BX];simp only [aj,↓reduceIte,d,h0,and_self,zE m,aC,bH n,lI,p,h,next j (by omega)];exact s
theorem Mc{N:List Nd}{eh:Bool}{hold:List Int}{ed:Bool}{ds:List (List T)}(s:N.length<=100000)(l:∀x∈N,x.ks.length<=1000)(m:∀(i:Nat) (x:Nd),N[i]? =some x->∀k∈x.ks,0<=k/\k < (i:Int)){r:List T}:∀(i:Nat) (need:List Bool),i<=N.length->need.length=N.length->
  Or l5 [Y'2,Y'3,o4,I (-1)] [ad.rows N.isEmpty 5 1 1 N.length (rows N),ad.sl false 1 eh (enc hold),ad.box [AV.t (T.ab 3 ed ds),o0,o1],cL,ad.sl false 1 false (dU (back N need i))]=some r->
  Or l5 [Y'2,Y'3,o4,I ((i:Int) - 1)] [ad.rows N.isEmpty 5 1 1 N.length (rows N),ad.sl false 1 eh (enc hold),ad.box [AV.t (T.ab 3 ed ds),o0,o1],cL,ad.sl false 1 false (dU need)]=some r:=by
 intro i;induction i with
 | zero=>intro need _ e a;exact a
 | succ i o=>
  intro need y e a;have g:i < N.length:=by omega
  have p:(((i+1:Nat):Int) - 1)= (i:Int):=by omega
  have j:(i:Int)>=0:=by omega
  have h0: 0<=(i:Int)/\(i:Int) < (need.length:Int):=by omega
  have q: 0<=(i:Int)/\(i:Int) < (N.length:Int):=by omega
  have b:=QK g;have d:need[i]? =some (need.getD i false):=by rw [QI,QK (by omega)];rfl
  have w:i64.wrap ((i:Int) - 1)= (i:Int) - 1:=wr (by omega);rw [p];rw [back] at a;cases f:need.getD i false with
  | false=>rw [f] at a d;have h:=o need (by omega) e (by simpa using a);refine ah ?_;rw [xD];simp only [aj,↓reduceIte,j,h0,and_self,lI,Q8,oL d,w];exact h
  | true=>
   rw [f] at a d;have n:N.getD i ⟨0,true,[],0,0,s0⟩=N[i]:=by rw [QI,b];rfl
   rw [n] at a;have h:=o (dX need N[i].ks) (by omega) (by rw [qH,e]) (by simpa using a);have v:=Mh (eh:=eh) (hold:=hold) (ed:=ed) (ds:=ds) b (l _ (Su g)) s N[i].ks 0 need rfl e (λk u=>by have:=m i _ b k u;omega) h;refine ah ?_;rw [xD];simp only [aj,↓reduceIte,j,h0,q,and_self,lI,Q8,oL d,aQ,zF b,FK,zE b,aC];exact v
abbrev GR(L:List (Nd×Bool))(e:Bool)(n:Nat):ad:=ad.rows e 5 1 1 n (eE 0 L)
theorem uW{L:List (Nd×Bool)}{i:Nat}{p:Nd×Bool}(h:L[i]? =some p):(eE 0 L)[i]? =some (kY i p):=by have:=FN (k:=0) h;rwa [Rh] at this
theorem qw{L:List (Nd×Bool)}{i:Nat}{x:Nd}(h:L[i]? =some (x,false)):cy i (eE 0 L)=some (x.ek,enc x.ks):=by have:=FM (k:=0) h;rwa [Rh] at this
theorem Dx{ks:List Int}{L:List (Nd×Bool)}{i:Nat}{x:Nd}{g:Bool}(h:L[i]? =some (x,g)):cU i (some (x.ek,enc ks)) (eE 0 L)=eE 0 (L.set i (⟨x.op,x.ek,ks,x.n,x.d,x.nm⟩,false)):=by have:=FP (ks:=ks) (k:=0) h;rwa [Rh] at this
theorem Dw{L:List (Nd×Bool)}{i:Nat}{x:Nd}{g:Bool}(h:L[i]? =some (x,g)):cU i none (eE 0 L)=eE 0 (L.set i (x,true)):=by have:=FO (k:=0) h;rwa [Rh] at this
theorem FI(k:Nat)(p:Nd×Bool):(kY k p).n=k:=rfl
theorem vV(k:Nat)(p:Nd×Bool):(kY k p).cs= [ti p.1.op,T.ao,ti p.1.n,ti p.1.d,T.str p.1.nm]:=rfl
abbrev dh(ed:Bool)(ds:List (List T))(x y:AV):ad:=ad.box [AV.t (T.ab 3 ed ds),x,y]
def gV(x:Nd):List T:= [ti x.op,T.ab 1 x.ek (enc x.ks),ti x.n,ti x.d,T.str x.nm]
theorem ED{eh:Bool}{hold:List Int}{ed ee:Bool}{ds:List (List T)}{need:List Bool}{to:List Int}{i n:Nat}{x:Nd}(E:n<=100000)(C:x.ks.length<=1000)(y:∀k∈x.ks,0<=k/\k < (to.length:Int)){outB:AV}{more:List ad}{r:List T}
  (step:∀(L:List (Nd×Bool)) (j:Nat) (k v:Int) (a:List Int),(j:Int) < (x.ks.length:Int)->L[i]? =some (⟨x.op,x.ek,a,x.n,x.d,x.nm⟩,false)->a[j]? =some k->(0<=k/\k < (to.length:Int))->to[k.toNat]? =some v->j < a.length->a.length=x.ks.length->
   Or gP [Y'2,Y'3,o4,o5,Y'6,Y'7,o0,I (n:Int),I (i:Int),AV.row (Id.c 0) i,I (x.ks.length:Int),I ((j+1:Nat):Int)] ([GR (L.set i (⟨x.op,x.ek,a.set j v,x.n,x.d,x.nm⟩,false)) ee n,ad.sl false 1 eh (enc hold),dh ed ds o0 o1,cL,ad.sl false 1 false (dU need),ad.sl false 1 false (enc to),dh ed ds outB (AV.t (T.ae true)),ad.box [I x.op,AV.row (Id.c 0) i,I x.n,I x.d,AV.t (T.str x.nm)]] ++more)=some r->
   Or gP [Y'2,Y'3,o4,o5,Y'6,Y'7,o0,I (n:Int),I (i:Int),AV.row (Id.c 0) i,I (x.ks.length:Int),I (j:Int)] ([GR L ee n,ad.sl false 1 eh (enc hold),dh ed ds o0 o1,cL,ad.sl false 1 false (dU need),ad.sl false 1 false (enc to),dh ed ds outB (AV.t (T.ae true)),ad.box [I x.op,AV.row (Id.c 0) i,I x.n,I x.d,AV.t (T.str x.nm)]] ++more)=some r):
  ∀(b:List Int) (j:Nat) (L:List (Nd×Bool)) (a:List Int),x.ks.drop j=b->j<=x.ks.length->i < L.length->a.length=j->L[i]? =some (⟨x.op,x.ek,a++b,x.n,x.d,x.nm⟩,false)->
   Or gP [Y'2,Y'3,o4,o5,Y'6,Y'7,o0,I (n:Int),I (i:Int),AV.row (Id.c 0) i,I (x.ks.length:Int),I (x.ks.length:Int)] ([GR (L.set i (⟨x.op,x.ek,a++b.map (λk=>to.getD k.toNat 0),x.n,x.d,x.nm⟩,false)) ee n,ad.sl false 1 eh (enc hold),dh ed ds o0 o1,cL,ad.sl false 1 false (dU need),ad.sl false 1 false (enc to),dh ed ds outB (AV.t (T.ae true)),ad.box [I x.op,AV.row (Id.c 0) i,I x.n,I x.d,AV.t (T.str x.nm)]] ++more)=some r->
   Or gP [Y'2,Y'3,o4,o5,Y'6,Y'7,o0,I (n:Int),I (i:Int),AV.row (Id.c 0) i,I (x.ks.length:Int),I (j:Int)] ([GR L ee n,ad.sl false 1 eh (enc hold),dh ed ds o0 o1,cL,ad.sl false 1 false (dU need),ad.sl false 1 false (enc to),dh ed ds outB (AV.t (T.ae true)),ad.box [I x.op,AV.row (Id.c 0) i,I x.n,I x.d,AV.t (T.str x.nm)]] ++more)=some r:=by
 intro b;induction b with
 | nil=>
  intro j L a g w f e l h;have q:j=x.ks.length:=by have:=bh g;omega
  have m:L.set i (⟨x.op,x.ek,a++ ([]:List Int).map (λk=>to.getD k.toNat 0),x.n,x.d,x.nm⟩,false)=L:=by have u:=(QC.1 l).2;rw [Rz,<-u,List.set_getElem_self]
  rw [m] at h;rw [q];exact h
 | cons k b B=>
  intro j L a g w f e l h;obtain⟨s,D,o⟩:=bm g;have p:=y k (QH s);have A:to[k.toNat]? =some (to.getD k.toNat 0):=by rw [QI,QK (by omega)];rfl
  have z:=Bw o (by omega);refine step L j k (to.getD k.toNat 0) (a++k::b) (by omega) l (by rw [Rg (by omega),e,Sc];rfl) p A (by simp;omega) (by simp;omega) ?_;have hs:(a++k::b).set j (to.getD k.toNat 0)= (a++ [to.getD k.toNat 0])++b:=by rw [List.set_append_right _ _ (by omega),e,Sc,S4,Q6];rfl
  rw [hs];refine B (j+1) _ (a++ [to.getD k.toNat 0]) o (by omega) (by simpa using f) (by simp [e]) ?_ ?_
  .rw [Sg f]
  .rw [List.set_set];rw [Rc] at h;simpa only [Q6,Rf] using h
def fA(need:List Bool)(i:Nat)(N:List Nd)(D:Nat->Nd):List (Nd×Bool):=N.mapIdx λj x=>if j < i then(if need.getD j false then(D j,true) else(x,false)) else(x,false)
theorem yu(need:List Bool)(i:Nat)(N:List Nd)(D:Nat->Nd):(fA need i N D).length=N.length:=by simp [fA]
theorem yt{need:List Bool}{i j:Nat}{N:List Nd}{D:Nat->Nd}{x:Nd}(h:N[j]? =some x):(fA need i N D)[j]? =some (if j < i then(if need.getD j false then(D j,true) else(x,false)) else(x,false)):=by unfold fA;rw [Sq,h];rfl
theorem DA{need:List Bool}{i:Nat}{N:List Nd}{D:Nat->Nd}(h:need.getD i false=false):fA need (i+1) N D=fA need i N D:=by
 unfold fA;refine RV λj=> ?_;rw [Sq,Sq];cases N[j]? with
 | none=>rfl
 | some x=>
  simp only [Se];by_cases e:j=i
  .subst e;rw [if_pos (SW _),h,if_neg (R0 _)];rfl
  .by_cases a:j < i
   .rw [if_pos a,if_pos (by omega)]
   .rw [if_neg a,if_neg (by omega)]
theorem DB{need:List Bool}{i:Nat}{N:List Nd}{D a:Nat->Nd}{y:Nd}(h:need.getD i false=true)(d:i < N.length)(c:a=λj=>if j=i then y else D j):fA need (i+1) N a= (fA need i N D).set i (y,true):=by
 refine RV λj=> ?_;by_cases e:j=i
 .subst e;rw [Sg (by rw [yu];exact d),yt (QK d),if_pos (SW _),h,c];simp
 .rw [SY (Th e)];unfold fA;rw [Sq,Sq];cases N[j]? with
  | none=>rfl
  | some x=>
   simp only [Se];by_cases b:j < i
   .rw [if_pos b,if_pos (by omega),c];simp only [if_neg e]
   .rw [if_neg b,if_neg (by omega)]
theorem KT(need:List Bool)(N:List Nd)(D:Nat->Nd):fA need 0 N D=N.map λx=>(x,false):=by unfold fA;refine RV λj=> ?_;rw [Sq,RI];cases N[j]? <;> simp
open Go Go.Aev Go.IntKind
abbrev MF(L:List (Nd×Bool))(ee eh ed:Bool)(n:Nat)(hold:List Int)(ds:List (List T))(need:List Bool)(to:List Int)(x:AV):List ad:=
 [GR L ee n,ad.sl false 1 eh (enc hold),dh ed ds o0 o1,cL,ad.sl false 1 false (dU need),ad.sl false 1 false (enc to),dh ed ds x (AV.t (T.ae true))]
theorem K1{eh ee ed:Bool}{hold:List Int}{ds:List (List T)}{need:List Bool}{to:List Int}{i n:Nat}{x:Nd}(z:n<=100000)(m:x.ks.length<=1000)(w:∀k∈x.ks,0<=k/\k < (to.length:Int)){L:List (Nd×Bool)}(g:i < L.length)(s:L[i]? =some (x,false)){r:List T}
  (e:Or iM [Y'2,Y'3,o4,o5,Y'6,o0,I (n:Int),I ((i+1:Nat):Int)] (MF (L.set i (⟨x.op,x.ek,x.ks.map λk=>to.getD k.toNat 0,x.n,x.d,x.nm⟩,true)) ee eh ed n hold ds need to V'7++ [ad.sl false 5 false [gV ⟨x.op,x.ek,x.ks.map λk=>to.getD k.toNat 0,x.n,x.d,x.nm⟩]])=some r) (B:i<=100000):
  Or gP [Y'2,Y'3,o4,o5,Y'6,Y'7,o0,I (n:Int),I (i:Int),AV.row (Id.c 0) i,I (x.ks.length:Int),I 0] (MF L ee eh ed n hold ds need to (AV.t (T.ae true))++ [ad.box [I x.op,AV.row (Id.c 0) i,I x.n,I x.d,AV.t (T.str x.nm)]])=some r:=by
 refine ED (need:=need) (outB:=AV.t (T.ae true)) (more:= []) z m w (λL j k v o p f l h A u y e=> ?_) x.ks 0 L [] rfl (RL _) g rfl s ?_
 .have h0: 0<=(j:Int):=by omega
  have q:(j:Int) < (o.length:Int):=by omega
  refine ah ?_;show ax ak ann Or gP _ [GR L ee n,ad.sl false 1 eh (enc hold),dh ed ds o0 o1,cL,ad.sl false 1 false (dU need),ad.sl false 1 false (enc to),dh ed ds (AV.t (T.ae true)) (AV.t (T.ae true)),ad.box [I x.op,AV.row (Id.c 0) i,I x.n,I x.d,AV.t (T.str x.nm)]]=_;rw [BY];simp only [aj,↓reduceIte,p,h0,and_self,qw f,aC,q,fj l,h,fj A,Q8,wz v u,next j (by omega)];have:=Dx (ks:=o.set j v) f;rw [this];exact e
 .have a:(L.set i (⟨x.op,x.ek,[] ++x.ks.map (λk=>to.getD k.toNat 0),x.n,x.d,x.nm⟩,false))[i]? =some (⟨x.op,x.ek,x.ks.map λk=>to.getD k.toNat 0,x.n,x.d,x.nm⟩,false):=by
   rw [Sg g];rfl
  have b:=Dw a;rw [List.set_set] at b;refine ah ?_;show ax ak ann Or gP _ [GR (L.set i (⟨x.op,x.ek,[] ++x.ks.map (λk=>to.getD k.toNat 0),x.n,x.d,x.nm⟩,false)) ee n,ad.sl false 1 eh (enc hold),dh ed ds o0 o1,cL,ad.sl false 1 false (dU need),ad.sl false 1 false (enc to),dh ed ds (AV.t (T.ae true)) (AV.t (T.ae true)),ad.box [I x.op,AV.row (Id.c 0) i,I x.n,I x.d,AV.t (T.str x.nm)]]=_;rw [BY];simp only [aj,Rl,decide_false,qw a,b,next i (by omega)];exact e
theorem K2{eh ee ed:Bool}{hold:List Int}{ds:List (List T)}{need:List Bool}{to:List Int}{i n:Nat}{x:Nd}{out:List Nd}(C:out.length<=100000)(z:n<=100000)(m:x.ks.length<=1000)(w:∀k∈x.ks,0<=k/\k < (to.length:Int)){L:List (Nd×Bool)}(g:i < L.length)(s:L[i]? =some (x,false)){r:List T}
  (a:Or iM [Y'2,Y'3,o4,o5,Y'6,o0,I (n:Int),I ((i+1:Nat):Int)] (MF (L.set i (⟨x.op,x.ek,x.ks.map λk=>to.getD k.toNat 0,x.n,x.d,x.nm⟩,true)) ee eh ed n hold ds need to V'7++ [ad.sl false 5 false ((out++ [(⟨x.op,x.ek,x.ks.map λk=>to.getD k.toNat 0,x.n,x.d,x.nm⟩:Nd)]).map gV)])=some r) (B:i<=100000):
  Or gP [Y'2,Y'3,o4,o5,Y'6,Y'7,o0,I (n:Int),I (i:Int),AV.row (Id.c 0) i,I (x.ks.length:Int),I 0] (MF L ee eh ed n hold ds need to V'8++ [ad.box [I x.op,AV.row (Id.c 0) i,I x.n,I x.d,AV.t (T.str x.nm)],ad.sl false 5 false (out.map gV)])=some r:=by
 refine ED (need:=need) (outB:=V'8) (more:= [ad.sl false 5 false (out.map gV)]) z m w (λL j k v o p f l h A u y a=> ?_) x.ks 0 L [] rfl (RL _) g rfl s ?_
 .have h0: 0<=(j:Int):=by omega
  have q:(j:Int) < (o.length:Int):=by omega
  refine ah ?_;show ax ak ann Or gP _ [GR L ee n,ad.sl false 1 eh (enc hold),dh ed ds o0 o1,cL,ad.sl false 1 false (dU need),ad.sl false 1 false (enc to),dh ed ds V'8 (AV.t (T.ae true)),ad.box [I x.op,AV.row (Id.c 0) i,I x.n,I x.d,AV.t (T.str x.nm)],ad.sl false 5 false (out.map gV)]=_;rw [BZ];simp only [aj,↓reduceIte,p,h0,and_self,qw f,aC,q,fj l,h,fj A,Q8,wz v u,next j (by omega)];have:=Dx (ks:=o.set j v) f;rw [this];exact a
 .have b:(L.set i (⟨x.op,x.ek,[] ++x.ks.map (λk=>to.getD k.toNat 0),x.n,x.d,x.nm⟩,false))[i]? =some (⟨x.op,x.ek,x.ks.map λk=>to.getD k.toNat 0,x.n,x.d,x.nm⟩,false):=by
   rw [Sg g];rfl
  have e:=Dw b;rw [List.set_set] at e;rw [SD] at a;refine ah ?_;show ax ak ann Or gP _ [GR (L.set i (⟨x.op,x.ek,[] ++x.ks.map (λk=>to.getD k.toNat 0),x.n,x.d,x.nm⟩,false)) ee n,ad.sl false 1 eh (enc hold),dh ed ds o0 o1,cL,ad.sl false 1 false (dU need),ad.sl false 1 false (enc to),dh ed ds V'8 (AV.t (T.ae true)),ad.box [I x.op,AV.row (Id.c 0) i,I x.n,I x.d,AV.t (T.str x.nm)],ad.sl false 5 false (out.map gV)]=_;rw [BZ];simp only [aj,Rl,decide_false,qw b,e,next i (by omega),Rr,QM,cC (show out.length+1<=1000000 by omega)];exact a
theorem D6{need:List Bool}{i:Nat}{x:Nd}{r:List Nd}{to:List Int}{out:List Nd}(h:need.getD i false=true):eA need i (x::r) to out=eA need (i+1) r (to.set i (out.length:Int)) (out++ [⟨x.op,x.ek,x.ks.map λk=>(to.set i (out.length:Int)).getD k.toNat 0,x.n,x.d,x.nm⟩]):=by rw [eA,if_pos h]
theorem D5{need:List Bool}{i:Nat}{x:Nd}{r:List Nd}{to:List Int}{out:List Nd}(h:need.getD i false=false):eA need i (x::r) to out=eA need (i+1) r to out:=by rw [eA,if_neg (by rw [h];simp)]
theorem Mf{N:List Nd}{eh ee ed:Bool}{hold:List Int}{ds:List (List T)}{need:List Bool}(J:N.length<=90000)(v:∀x∈N,x.ks.length<=1000)(w:∀(i:Nat) (x:Nd),N[i]? =some x->∀k∈x.ks,0<=k/\k < (i:Int))(G:need.length=N.length){r:List T}:∀(rest:List Nd) (i:Nat) (to:List Int) (out:List Nd) (D:Nat->Nd),N.drop i=rest->i<=N.length->to.length=N.length->out.length<=i->
  (∀L,Or fQ [Y'2,V'3,Y'4,o1,I (hold.length:Int),I 0] [GR L ee N.length,ad.sl false 1 eh (enc hold),cL,ad.sl false 1 false (enc (eA need i rest to out).1),dh ed ds V'5 (AV.t (T.ae true)),ad.sl false 5 false ((eA need i rest to out).2.map gV)]=some r)->
  Or iM [Y'2,Y'3,o4,o5,Y'6,o0,I (N.length:Int),I (i:Int)] (MF (fA need i N D) ee eh ed N.length hold ds need to V'7++ [ad.sl false 5 false (out.map gV)])=some r:=by
 intro rest;induction rest with
 | nil=>
  intro i to out D g C f z b;have m:¬(i:Int) < (N.length:Int):=by have:=bh g;omega
  refine ah ?_;show ax ak ann Or iM _ [GR (fA need i N D) ee N.length,ad.sl false 1 eh (enc hold),dh ed ds o0 o1,cL,ad.sl false 1 false (dU need),ad.sl false 1 false (enc to),dh ed ds V'7 (AV.t (T.ae true)),ad.sl false 5 false (out.map gV)]=_;rw [xC];simp only [aj,↓reduceIte,m,aC];exact b _
 | cons x rest A=>
  intro i to out D g C f z b;obtain⟨q,H,s⟩:=bm g;have m:(i:Int) < (N.length:Int):=by omega
  have h0: 0<=(i:Int):=by omega
  have o:need[i]? =some (need.getD i false):=by rw [QI,QK (by omega)];rfl
  have p:(fA need i N D)[i]? =some (x,false):=by rw [yt q,if_neg (R0 _)]
  have e:=yu need i N D;have u:(i:Int) < (need.length:Int):=by omega
  cases a:need.getD i false with
  | false=>rw [a] at o;rw [D5 a] at b;have h:=A (i+1) to out D s (by omega) f (by omega) b;rw [DA a] at h;refine ah ?_;show ax ak ann Or iM _ [GR (fA need i N D) ee N.length,ad.sl false 1 eh (enc hold),dh ed ds o0 o1,cL,ad.sl false 1 false (dU need),ad.sl false 1 false (enc to),dh ed ds V'7 (AV.t (T.ae true)),ad.sl false 5 false (out.map gV)]=_;rw [xC];simp only [aj,↓reduceIte,m,h0,and_self,s7,e,Q8,uW p,vV,lI,u,oL o,next i (by omega)];exact h
  | true=>
   rw [a] at o;rw [D6 a] at b;have B:(i:Int) < (to.length:Int):=by omega
   have y:=w i x q;have h:=A (i+1) (to.set i (out.length:Int)) (out++ [⟨x.op,x.ek,x.ks.map λk=>(to.set i (out.length:Int)).getD k.toNat 0,x.n,x.d,x.nm⟩]) (λj=>if j=i then⟨x.op,x.ek,x.ks.map λk=>(to.set i (out.length:Int)).getD k.toNat 0,x.n,x.d,x.nm⟩ else D j) s (by omega) (by simp [f]) (by simp;omega) b;rw [DB a (by omega) rfl] at h;have F:=K2 (eh:=eh) (ee:=ee) (ed:=ed) (hold:=hold) (ds:=ds) (need:=need) (to:=to.set i (out.length:Int)) (i:=i) (n:=N.length) (x:=x) (out:=out) (by omega) (by omega) (v x (QH q)) (λk E=>by have:=y k E;rw [SE];omega) (L:=fA need i N D) (by rw [e];omega) p h (by omega);refine ah ?_;show ax ak ann Or iM _ [GR (fA need i N D) ee N.length,ad.sl false 1 eh (enc hold),dh ed ds o0 o1,cL,ad.sl false 1 false (dU need),ad.sl false 1 false (enc to),dh ed ds V'7 (AV.t (T.ae true)),ad.sl false 5 false (out.map gV)]=_;rw [xC];simp only [aj,↓reduceIte,m,h0,and_self,s7,e,Q8,uW p,vV,FI,lI,u,oL o,aC,B,Rr,wz (l:=to) (i:=i) (out.length:Int) (by omega),qw p];exact F
def LN(l:List Nd):T:=if l.isEmpty then T.ae true else T.ab 5 false (aW l)
theorem Ln(l:List Nd):(LN l).an 5=some (l.isEmpty,aW l):=by cases l <;> rfl
abbrev FB(L:List (Nd×Bool))(ee eh ed:Bool)(n:Nat)(hold:List Int)(ds:List (List T))(to:List Int)(out:List Nd):List ad:=
 match out with
 | []=> [GR L ee n,ad.sl false 1 eh (enc hold),cL,ad.sl false 1 false (enc to),dh ed ds (AV.t (T.ae true)) (AV.t (T.ae true))]
 | x::r=> [GR L ee n,ad.sl false 1 eh (enc hold),cL,ad.sl false 1 false (enc to),dh ed ds V'5 (AV.t (T.ae true)),ad.sl false 5 false ((x::r).map gV)]
theorem yG{need:List Bool}:∀(rest:List Nd) (i:Nat) (to:List Int) (out:List Nd),out≠[]->(eA need i rest to out).2≠[]
 | [],_,_,_,h=>h
 | x::rest,i,to,out,h=>by
  rw [eA];split
  .exact yG rest _ _ _ (by simp)
  .exact yG rest _ _ _ h
theorem Md{N:List Nd}{eh ee ed:Bool}{hold:List Int}{ds:List (List T)}{need:List Bool}(H:N.length<=90000)(y:∀x∈N,x.ks.length<=1000)(z:∀(i:Nat) (x:Nd),N[i]? =some x->∀k∈x.ks,0<=k/\k < (i:Int))(F:need.length=N.length){r:List T}:∀(rest:List Nd) (i:Nat) (to:List Int) (D:Nat->Nd),N.drop i=rest->i<=N.length->to.length=N.length->
  (∀L,Or fQ [Y'2,V'3,Y'4,o1,I (hold.length:Int),I 0] (FB L ee eh ed N.length hold ds (eA need i rest to []).1 (eA need i rest to []).2)=some r)->
  Or iM [Y'2,Y'3,o4,o5,Y'6,o0,I (N.length:Int),I (i:Int)] (MF (fA need i N D) ee eh ed N.length hold ds need to (AV.t (T.ae true)))=some r:=by
 intro rest;induction rest with
 | nil=>
  intro i to D g J s m;have f:¬(i:Int) < (N.length:Int):=by have:=bh g;omega
  refine ah ?_;rw [xB];simp only [aj,↓reduceIte,f,aC];exact m _
 | cons x rest O=>
  intro i to D g J s m;obtain⟨A,P,B⟩:=bm g;have f:(i:Int) < (N.length:Int):=by omega
  have h0: 0<=(i:Int):=by omega
  have v:need[i]? =some (need.getD i false):=by rw [QI,QK (by omega)];rfl
  have w:(fA need i N D)[i]? =some (x,false):=by rw [yt A,if_neg (R0 _)]
  have p:=yu need i N D;have o:(i:Int) < (need.length:Int):=by omega
  cases e:need.getD i false with
  | false=>rw [e] at v;rw [D5 e] at m;have u:=O (i+1) to D B (by omega) s m;rw [DA e] at u;refine ah ?_;rw [xB];simp only [aj,↓reduceIte,f,h0,and_self,s7,p,Q8,uW w,vV,lI,o,oL v,next i (by omega)];exact u
  | true=>
   rw [e] at v;rw [D6 e] at m;have G:(i:Int) < (to.length:Int):=by omega
   have C:=z i x A;have u:=Mf (eh:=eh) (ee:=ee) (ed:=ed) (hold:=hold) (ds:=ds) (need:=need) H y z F (r:=r) rest (i+1) (to.set i ((0:Nat):Int)) [⟨x.op,x.ek,x.ks.map λk=>(to.set i ((0:Nat):Int)).getD k.toNat 0,x.n,x.d,x.nm⟩] (λj=>if j=i then⟨x.op,x.ek,x.ks.map λk=>(to.set i ((0:Nat):Int)).getD k.toNat 0,x.n,x.d,x.nm⟩ else D j) B (by omega) (by simp [s]) (by simp) (λL=>by
    have h:=m L;have E:=yG (need:=need) rest (i+1) (to.set i ((0:Nat):Int)) [⟨x.op,x.ek,x.ks.map λk=>(to.set i ((0:Nat):Int)).getD k.toNat 0,x.n,x.d,x.nm⟩] (by simp);simp only [QW,RO] at h;revert h E;generalize (eA need (i+1) rest (to.set i ((0:Nat):Int)) [⟨x.op,x.ek,x.ks.map λk=>(to.set i ((0:Nat):Int)).getD k.toNat 0,x.n,x.d,x.nm⟩]).2=q;intro f o;cases q with
    | nil=>first | exact absurd rfl f | exact absurd rfl o
    | cons a b=>first | exact f | exact o)
   rw [DB e (by omega) rfl] at u;have M:=K1 (eh:=eh) (ee:=ee) (ed:=ed) (hold:=hold) (ds:=ds) (need:=need) (to:=to.set i ((0:Nat):Int)) (i:=i) (n:=N.length) (x:=x) (by omega) (y x (QH A)) (λk K=>by have:=C k K;rw [SE];omega) (L:=fA need i N D) (by rw [p];omega) w u (by omega);refine ah ?_;rw [xB];simp only [aj,↓reduceIte,f,h0,and_self,s7,p,Q8,uW w,vV,FI,lI,o,oL v,aC,G,wz (l:=to) (i:=i) (0:Int) (by omega),qw w];exact M
theorem Mg{L:List (Nd×Bool)}{ee eh ed:Bool}{n:Nat}{hold:List Int}{ds:List (List T)}{to:List Int}{out:List Nd}(hl:hold.length<=1000)(p:∀k∈hold,0<=k/\k < (to.length:Int)):
  Or fQ [Y'2,V'3,Y'4,o1,I (hold.length:Int),I 0] (FB L ee eh ed n hold ds to out)=some [T.ab 3 ed ds,LN out,LO (hold.map λk=>to.getD k.toNat 0)]:=by
 have q:∀k∈hold,to[k.toNat]? =some (to.getD k.toNat 0):=λk hm=>by have:=p k hm;rw [QI,QK (by omega)];rfl
 cases out with
 | nil=>
  have v:∀(b:List Int) (j:Nat) (a:List Int),hold.drop j=b->j<=hold.length->a.length=j->
    Or fQ [Y'2,V'3,Y'4,o1,I (hold.length:Int),I (j:Int)] [GR L ee n,ad.sl false 1 eh (enc hold),cL,ad.sl false 1 false (enc to),dh ed ds (AV.t (T.ae true)) V'5,ad.sl false 1 false (enc a)]=some [T.ab 3 ed ds,T.ae true,T.ab 1 false (enc (a++b.map λk=>to.getD k.toNat 0))]:=by
   intro b;induction b with
   | nil=>
    intro j a g s f;have e:¬(j:Int) < (hold.length:Int):=by have:=bh g;omega
    refine ah ?_;rw [B2];simp only [aj,↓reduceIte,e,Rz,QX]
   | cons k b u=>
    intro j a g s f;obtain⟨d,y,r⟩:=bm g;have e:(j:Int) < (hold.length:Int):=by omega
    have h0: 0<=(j:Int):=by omega
    have i:=p k (QH d);have m:=q k (QH d);have o:=u (j+1) (a++ [to.getD k.toNat 0]) r (by omega) (by simp [f]);simp only [Q6,Rf] at o;rw [Rc];refine ah ?_;rw [B2];simp only [aj,↓reduceIte,e,h0,and_self,aC,bH d,i,fj m,QM,cC (show a.length+1<=1000000 by omega),next j (by omega),eK];exact o
  cases h:hold with
  | nil=>refine ah ?_;show ax ak ann Or fQ _ [GR L ee n,ad.sl false 1 eh (enc []),cL,ad.sl false 1 false (enc to),dh ed ds (AV.t (T.ae true)) (AV.t (T.ae true))]=_;rw [B1];simp only [aj,QW,Re,Rl,decide_false];rfl
  | cons k b=>
   have i:=p k (by rw [h];exact QA);have m:=q k (by rw [h];exact QA);have o:=v b 1 [to.getD k.toNat 0] (by rw [h];rfl) (by rw [h];simp) rfl;rw [h] at o;have e:(0:Int) < (((k::b).length:Nat):Int):=by simp
   have h0:(0:Int)<=0:=by omega
   have d:(enc (k::b))[(0:Int).toNat]? =some [ti k]:=rfl;have w:i64.wrap (0+1)= ((1:Nat):Int):=by decide
   refine ah ?_;show ax ak ann Or fQ _ [GR L ee n,ad.sl false 1 eh (enc (k::b)),cL,ad.sl false 1 false (enc to),dh ed ds (AV.t (T.ae true)) (AV.t (T.ae true))]=_;rw [B1];simp only [aj,↓reduceIte,e,h0,and_self,aC,d,i,fj m,w];exact o
 | cons x xs=>
  have v:∀(b:List Int) (j:Nat) (a:List Int),hold.drop j=b->j<=hold.length->a.length=j->
    Or fQ [Y'2,V'3,Y'4,o1,I (hold.length:Int),I (j:Int)] [GR L ee n,ad.sl false 1 eh (enc hold),cL,ad.sl false 1 false (enc to),dh ed ds V'5 V'6,ad.sl false 5 false ((x::xs).map gV),ad.sl false 1 false (enc a)]=some [T.ab 3 ed ds,T.ab 5 false ((x::xs).map gV),T.ab 1 false (enc (a++b.map λk=>to.getD k.toNat 0))]:=by
   intro b;induction b with
   | nil=>
    intro j a g s f;have e:¬(j:Int) < (hold.length:Int):=by have:=bh g;omega
    refine ah ?_;rw [B4];simp only [aj,↓reduceIte,e,Rz,QX]
   | cons k b u=>
    intro j a g s f;obtain⟨d,y,r⟩:=bm g;have e:(j:Int) < (hold.length:Int):=by omega
    have h0: 0<=(j:Int):=by omega
    have i:=p k (QH d);have m:=q k (QH d);have o:=u (j+1) (a++ [to.getD k.toNat 0]) r (by omega) (by simp [f]);simp only [Q6,Rf] at o;rw [Rc (l:=b)];refine ah ?_;rw [B4];simp only [aj,↓reduceIte,e,h0,and_self,aC,bH d,i,fj m,QM,cC (show a.length+1<=1000000 by omega),next j (by omega),eK];exact o
  cases h:hold with
  | nil=>refine ah ?_;show ax ak ann Or fQ _ [GR L ee n,ad.sl false 1 eh (enc []),cL,ad.sl false 1 false (enc to),dh ed ds V'5 (AV.t (T.ae true)),ad.sl false 5 false ((x::xs).map gV)]=_;rw [B3];simp only [aj,QW,Re,Rl,decide_false];rfl
  | cons k b=>
   have i:=p k (by rw [h];exact QA);have m:=q k (by rw [h];exact QA);have o:=v b 1 [to.getD k.toNat 0] (by rw [h];rfl) (by rw [h];simp) rfl;rw [h] at o;have e:(0:Int) < (((k::b).length:Nat):Int):=by simp
   have h0:(0:Int)<=0:=by omega
   have d:(enc (k::b))[(0:Int).toNat]? =some [ti k]:=rfl;have w:i64.wrap (0+1)= ((1:Nat):Int):=by decide
   refine ah ?_;show ax ak ann Or fQ _ [GR L ee n,ad.sl false 1 eh (enc (k::b)),cL,ad.sl false 1 false (enc to),dh ed ds V'5 (AV.t (T.ae true)),ad.sl false 5 false ((x::xs).map gV)]=_;rw [B3];simp only [aj,↓reduceIte,e,h0,and_self,aC,d,i,fj m,w];exact o
theorem yF{need:List Bool}:∀(rest:List Nd) (i:Nat) (to:List Int) (out:List Nd),(eA need i rest to out).1.length=to.length
 | [],_,_,_=>rfl
 | x::rest,i,to,out=>by
  rw [eA];split
  .rw [yF rest];simp
  .exact yF rest _ _ _
theorem OB{N:List Nd}{eh ed:Bool}{hold:List Int}{ds:List (List T)}(p:N.length<=90000)(hl:hold.length<=1000)(d:∀x∈N,x.ks.length<=1000)(e:∀(i:Nat) (x:Nd),N[i]? =some x->∀k∈x.ks,0<=k/\k < (i:Int))(l:∀k∈hold,0<=k/\k < (N.length:Int)):
  Or (.call 29) [AV.agg [AV.t (T.ab 3 ed ds),o0,o1]] [ad.rows N.isEmpty 5 1 1 N.length (rows N),ad.sl false 1 eh (enc hold)]=some [T.ab 3 ed ds,LN (jf N hold).1,LO (jf N hold).2]:=by
 unfold jf;dsimp only;have g:(dX (List.replicate N.length false) hold).length=N.length:=by rw [qH,R8]
 have b:(back N (dX (List.replicate N.length false) hold) N.length).length=N.length:=by rw [AW,g]
 have f:=λL=>Mg (L:=L) (ee:=N.isEmpty) (eh:=eh) (ed:=ed) (n:=N.length) (hold:=hold) (ds:=ds) (to:=(eA (back N (dX (List.replicate N.length false) hold) N.length) 0 N (List.replicate N.length 0) []).1) (out:=(eA (back N (dX (List.replicate N.length false) hold) N.length) 0 N (List.replicate N.length 0) []).2) hl (λk hm=>by rw [yF,R8];exact l k hm);have h:=Md (eh:=eh) (ee:=N.isEmpty) (ed:=ed) (hold:=hold) (ds:=ds) p d e b N 0 (List.replicate N.length 0) (λ_=>⟨0,true,[],0,0,s0⟩) rfl (RL _) (by simp) f;rw [KT] at h;have j:Or l5 [Y'2,Y'3,o4,I (-1)] [ad.rows N.isEmpty 5 1 1 N.length (rows N),ad.sl false 1 eh (enc hold),ad.box [AV.t (T.ab 3 ed ds),o0,o1],cL,ad.sl false 1 false (dU (back N (dX (List.replicate N.length false) hold) N.length))]=some [T.ab 3 ed ds,LN (eA (back N (dX (List.replicate N.length false) hold) N.length) 0 N (List.replicate N.length 0) []).2,LO (hold.map λk=>(eA (back N (dX (List.replicate N.length false) hold) N.length) 0 N (List.replicate N.length 0) []).1.getD k.toNat 0)]:=by
  have o:¬(-1:Int)>=0:=by omega
  have hm:lR (N.length:Int) (N.length:Int)=some ():=by unfold lR;rw [if_pos ⟨by omega,by omega,by unfold lP;omega⟩]
  have a:List.replicate ((N.length:Int)).toNat [ti 0]=enc (List.replicate N.length 0):=by simp [enc]
  refine ah ?_;rw [xD];simp only [aj,↓reduceIte,o,lI,b,hm,a,aQ];simp only [MF,GR,FL] at h;exact h
 have q:=Mc (eh:=eh) (hold:=hold) (ed:=ed) (ds:=ds) (show N.length<=100000 by omega) d e N.length (dX (List.replicate N.length false) hold) (QV _) g j;have m:=Mi (eh:=eh) (ed:=ed) (ds:=ds) hl hold 0 (List.replicate N.length false) rfl (by simp) (by omega) l q;have hm:lR (N.length:Int) (N.length:Int)=some ():=by unfold lR;rw [if_pos ⟨by omega,by omega,by unfold lP;omega⟩]
 have a:List.replicate ((N.length:Int)).toNat [tb false]=dU (List.replicate N.length false):=by simp [dU]
 refine ah ?_;rw [IN];simp only [aj,aQ,hm,a,aC];exact m
open Go Go.Aev Go.IntKind
theorem pS(x:ByteArray):x.data.toList.length=x.size:=by rw [Ra];rfl
def kM(s p:ByteArray):Bool:=decide ((s.size:Int)>=(p.size:Int)) && decide (s.extract 0 p.size=p)
def nW(s p:ByteArray):Bool:=kM s p && (match s.data.toList[p.size]? with
 | some u=>decide ((u.toNat:Int)>=48) && decide ((u.toNat:Int)<=57)
 | none=>false)
theorem Ob(s p:ByteArray):Or (.call 91) [AV.t (T.str s),AV.t (T.str p)] []=some [tb (kM s p)]:=by
 unfold kM;refine ah ?_;rw [Iv];by_cases h:(s.size:Int)>=(p.size:Int)
 .have a:fp 0 (p.size:Int) (s.size:Int)=some ():=by unfold fp;rw [if_pos ⟨by omega,by omega,by omega⟩]
  simp only [aj,h,a,decide_true,Q8,ru]
 .simp only [bq,aj,h,decide_false]
def jC(s p:ByteArray):ByteArray:=if kM s p then s.extract p.size s.size else s
theorem OS(s p:ByteArray):Or (.call 43) [AV.t (T.str s),AV.t (T.str p)] []=some [T.str (jC s p),tb (kM s p)]:=by
 have k:=Ob s p;have c:Or (.call 78) [AV.t (T.str s),AV.t (T.str p)] []=some [T.str (jC s p),tb (kM s p)]:=by
  unfold jC;refine ah ?_;rw [Ke];cases a:kM s p with
  | false=>rw [a] at k;simp only [aj,k];rfl
  | true=>
   rw [a] at k;have hs:(p.size:Int)<=(s.size:Int):=by unfold kM at a;simp only [QF,decide_eq_true_eq] at a;exact a.1
   have b:fp (p.size:Int) (s.size:Int) (s.size:Int)=some ():=by unfold fp;rw [if_pos ⟨by omega,by omega,by omega⟩]
   simp only [aj,↓reduceIte,k,b,Q8]
 refine ah ?_;rw [Jf];simp only [aj,c]
theorem OR(nm p:ByteArray)(ea:Bool)(ar:List (List T))(so:Int):Or (.call 42) [AV.agg [AV.t (T.str nm),AV.t (T.ab 1 ea ar),I so],AV.t (T.ptr [T.str p])] []=some [tb (nW nm p)]:=by
 have k:=OS nm p;unfold nW;refine ah ?_;rw [Je];cases c:kM nm p with
 | false=>rw [c] at k;simp only [bq,aj,k]
 | true=>
  have e:jC nm p=nm.extract p.size nm.size:=by unfold jC;rw [c];rfl
  have el:(jC nm p).data.toList=nm.data.toList.drop p.size:=by rw [e];exact Go.Lib.extract_to_end nm p.size
  have es:(jC nm p).size=nm.size - p.size:=by have:=congrArg List.length el;rw [RM,pS,pS] at this;exact this
  rw [c] at k;have g:(jC nm p).data.toList[0]? =nm.data.toList[p.size]?:=by rw [el,Sz,SK]
  cases b:nm.data.toList[p.size]? with
  | none=>
   have f:jC nm p=ByteArray.mk #[]:=by
    have:(jC nm p).data.toList= []:=by rw [el];have:=List.getElem?_eq_none_iff.1 b;exact Sv this
    cases h:jC nm p with
    | mk d=>rw [h] at this;simp only at this;rw [Array.toList_eq_nil_iff.1 this]
   simp only [bq,aj,↓reduceIte,k,ru,f,decide_true]
  | some u=>
   have j:p.size < nm.size:=by have:=(QC.1 b).1;rw [pS] at this;exact this
   have f:¬jC nm p=ByteArray.mk #[]:=λh=>by have:=congrArg ByteArray.size h;rw [es] at this;have l:(ByteArray.mk #[]).size=0:=rfl;omega
   have i:(0:Int)<=0/\(0:Int) < ((jC nm p).size:Int):=by rw [es];omega
   rw [b] at g;simp only [aj,↓reduceIte,k,ru,f,decide_false,i,and_self,g];by_cases a:(u.toNat:Int)>=48
   .simp only [aj,↓reduceIte,a,decide_true]
   .simp only [aj,↓reduceIte,a,decide_false]
def jd(ds:List Dc)(p:ByteArray):Bool:=ds.any λd=>nW d.nm p
theorem EH{e:Bool}{ds:List Dc}{p:ByteArray}(hl:ds.length<=100):∀(r:List Dc) (i:Nat),ds.drop i=r->
  ∃z:Int,Or gQ [AV.t (T.ab 3 e (aI ds)),AV.fn 42 [] [AV.t (T.ptr [T.str p])],I (ds.length:Int),I (i:Int)] []=some [ti z]/\decide (z>=0)=r.any λd=>nW d.nm p:=by
 intro r;induction r with
 | nil=>
  intro i g;have a:¬(i:Int) < (ds.length:Int):=by have:=bh g;omega
  refine⟨-1,ah ?_,by simp⟩;rw [x6];simp only [aj,↓reduceIte,a]
 | cons d r h=>
  intro i g;obtain⟨c,m,f⟩:=bm g;have a:(i:Int) < (ds.length:Int):=by omega
  have h0: 0<=(i:Int):=by omega
  have k:=OR d.nm p d.ea (enc d.ar) d.so;cases b:nW d.nm p with
  | true=>rw [b] at k;refine⟨(i:Int),ah ?_,by simp [b]⟩;rw [x6];simp only [aj,↓reduceIte,a,h0,and_self,cj,dF c,k]
  | false=>rw [b] at k;obtain⟨z,j,l⟩:=h (i+1) f;refine⟨z,ah ?_,by rw [l];simp [b]⟩;rw [x6];simp only [aj,↓reduceIte,a,h0,and_self,cj,dF c,k,next i (by omega)];exact j
def kg(ds:List Dc):Nat->ByteArray->ByteArray
 | 0,p=>p
 | k+1,p=>if jd ds p then kg ds k (p++us) else p
theorem wB{ds:List Dc}{p:ByteArray}(hs:∀d∈ds,d.nm.size<=12)(h:jd ds p=true):p.size < 12:=by
 unfold jd at h;obtain⟨d,a,h⟩:=Sl.1 h;unfold nW at h;simp only [QF] at h;split at h
 .rename_i u b;have:=(QC.1 b).1;have c:=hs d a;have e:=pS d.nm;omega
 .cases h.2
theorem LX{ed en eh:Bool}{ds:List Dc}{ns:List (List T)}{hs:List (List T)}(hl:ds.length<=100)(c:∀d∈ds,d.nm.size<=12):∀(k:Nat) (p:ByteArray),12<=p.size+k->p.size<=12->
  Or tE [r0,r1] [ad.box [AV.t (T.ab 3 ed (aI ds)),AV.t (T.ab 5 en ns),AV.t (T.ab 1 eh hs)],ad.box [AV.t (T.str p)]]=some [T.str (kg ds k p)]:=by
 intro k;induction k with
 | zero=>
  intro p l m;obtain⟨z,g,i⟩:=EH (e:=ed) (p:=p) hl ds 0 rfl;have b:Or (.call 77) [AV.t (T.ab 3 ed (aI ds)),AV.fn 42 [] [AV.t (T.ptr [T.str p])]] []=some [ti z]:=by refine ah ?_;rw [CL];simp only [cj];exact g
  have nt:jd ds p=false:=by
   cases h:jd ds p with
   | false=>rfl
   | true=>have:=wB c h;omega
  have a:Or (.call 40) [AV.t (T.ab 3 ed (aI ds)),AV.fn 42 [] [AV.t (T.ptr [T.str p])]] []=some [tb false]:=by rw [<-nt];refine ah ?_;rw [Ce];simp only [aj,b,i,jd]
  rw [kg];refine ah ?_;rw [xy];simp only [aj,a]
 | succ k o=>
  intro p l m;obtain⟨z,g,i⟩:=EH (e:=ed) (p:=p) hl ds 0 rfl;have b:Or (.call 77) [AV.t (T.ab 3 ed (aI ds)),AV.fn 42 [] [AV.t (T.ptr [T.str p])]] []=some [ti z]:=by refine ah ?_;rw [CL];simp only [cj];exact g
  have a:Or (.call 40) [AV.t (T.ab 3 ed (aI ds)),AV.fn 42 [] [AV.t (T.ptr [T.str p])]] []=some [tb (jd ds p)]:=by refine ah ?_;rw [Ce];simp only [aj,b,i,jd]
  rw [kg];cases f:jd ds p with
  | false=>rw [f] at a;refine ah ?_;rw [xy];simp only [aj,a];rfl
  | true=>
   rw [f] at a;have:=wB c f;have n:=o (p++us) (by rw [QZ,gf];omega) (by rw [QZ,gf];omega);have j:p.size+1<=4294967296:=by omega
   refine ah ?_;rw [xy];simp only [aj,↓reduceIte,a,j];exact n
def dm(ds:List Dc):ByteArray:=kg ds 11 us
theorem zk{ds:List Dc}(a:∀d∈ds,d.nm.size<=12):∀(k:Nat) (p:ByteArray),p.size<=12->(kg ds k p).size<=12
 | 0,p,h=>h
 | k+1,p,h=>by
  rw [kg];split
  .rename_i b;have:=wB a b;exact zk a k _ (by rw [QZ,gf];omega)
  .exact h
theorem Oj{ed en eh:Bool}{ds:List Dc}{ns:List (List T)}{hs:List (List T)}(hl:ds.length<=100)(a:∀d∈ds,d.nm.size<=12):
  Or (.call 25) [AV.agg [AV.t (T.ab 3 ed (aI ds)),AV.t (T.ab 5 en ns),AV.t (T.ab 1 eh hs)]] []=some [T.str (dm ds)]:=by
 have:=LX (ed:=ed) (en:=en) (eh:=eh) (ns:=ns) (hs:=hs) hl a 11 us (by rw [gf];omega) (by rw [gf];omega);refine ah ?_;rw [IG];exact this
theorem M4{e:Bool}{l:List Int}(hl:l.length<=1000):∀(r:List Int) (i:Nat),l.drop i=r->
  ∃z:Int,Or eN [ab e l,AV.fn 14 [] [],I (l.length:Int),I (i:Int)] []=some [ti z]/\decide (z>=0)=r.any aE:=by
 intro r;induction r with
 | nil=>
  intro i g;have a:¬(i:Int) < (l.length:Int):=by have:=bh g;omega
  refine⟨-1,ah ?_,by simp⟩;rw [xU];simp only [aj,↓reduceIte,a]
 | cons d r h=>
  intro i g;obtain⟨c,n,f⟩:=bm g;have a:(i:Int) < (l.length:Int):=by omega
  have h0: 0<=(i:Int):=by omega
  have k:=fZ d;cases b:aE d with
  | true=>rw [b] at k;refine⟨(i:Int),ah ?_,by simp [b]⟩;rw [xU];simp only [aj,↓reduceIte,a,h0,and_self,aC,bH c,k]
  | false=>rw [b] at k;obtain⟨z,j,m⟩:=h (i+1) f;refine⟨z,ah ?_,by rw [m];simp [b]⟩;rw [xU];simp only [aj,↓reduceIte,a,h0,and_self,aC,bH c,k,next i (by omega)];exact j
theorem M8{e:Bool}{ds:List Dc}(hl:ds.length<=1000):∀(r:List Dc) (i:Nat),ds.drop i=r->
  ∃z:Int,Or gQ [AV.t (T.ab 3 e (aI ds)),AV.fn 41 [] [],I (ds.length:Int),I (i:Int)] []=some [ti z]/\decide (z>=0)=r.any λd=>aE d.so:=by
 intro r;induction r with
 | nil=>
  intro i g;have a:¬(i:Int) < (ds.length:Int):=by have:=bh g;omega
  refine⟨-1,ah ?_,by simp⟩;rw [x5];simp only [aj,↓reduceIte,a]
 | cons d r j=>
  intro i g;obtain⟨c,n,h⟩:=bm g;have a:(i:Int) < (ds.length:Int):=by omega
  have h0: 0<=(i:Int):=by omega
  have f:=fZ d.so;have k:Or (.call 41) [AV.agg [AV.t (T.str d.nm),AV.t (T.ab 1 d.ea (enc d.ar)),I d.so]] []=some [tb (aE d.so)]:=by refine ah ?_;rw [Jd];simp only [aj,f]
  cases b:aE d.so with
  | true=>rw [b] at k;refine⟨(i:Int),ah ?_,by simp [b]⟩;rw [x5];simp only [aj,↓reduceIte,a,h0,and_self,cj,dF c,k]
  | false=>rw [b] at k;obtain⟨z,l,m⟩:=j (i+1) h;refine⟨z,ah ?_,by rw [m];simp [b]⟩;rw [x5];simp only [aj,↓reduceIte,a,h0,and_self,cj,dF c,k,next i (by omega)];exact l
def pr(ds:List Dc)(ss:List Int):Bool:=ss.any aE || ds.any λd=>aE d.so
theorem OM{e:Bool}{l:List Int}(hl:l.length<=1000):Or (.call 39) [ab e l,AV.fn 14 [] []] []=some [tb (l.any aE)]:=by
 obtain⟨z,b,c⟩:=M4 (e:=e) hl l 0 rfl;have a:Or (.call 76) [ab e l,AV.fn 14 [] []] []=some [ti z]:=by refine ah ?_;rw [J3];simp only [aC];exact b
 refine ah ?_;rw [I0];simp only [aj,a,c]
theorem Oh{ed en eh es:Bool}{ds:List Dc}{ns:List (List T)}{hs:List (List T)}{ss:List Int}(hl:ds.length<=100)(c:ss.length<=1000):
  Or (.call 23) [AV.agg [AV.t (T.ab 3 ed (aI ds)),AV.t (T.ab 5 en ns),AV.t (T.ab 1 eh hs)],ab es ss] []=some [tb (pr ds ss)]:=by
 have a:=OM (e:=es) c;obtain⟨z,h,i⟩:=M8 (e:=ed) (ds:=ds) (by omega) ds 0 rfl;have g:Or (.call 77) [AV.t (T.ab 3 ed (aI ds)),AV.fn 41 [] []] []=some [ti z]:=by refine ah ?_;rw [Kb];simp only [cj];exact h
 have f:Or (.call 40) [AV.t (T.ab 3 ed (aI ds)),AV.fn 41 [] []] []=some [tb (ds.any λd=>aE d.so)]:=by refine ah ?_;rw [Jb];simp only [aj,g,i]
 unfold pr;refine ah ?_;rw [IF];cases b:ss.any aE with
 | true=>rw [b] at a;simp only [bq,aj,a];rfl
 | false=>rw [b] at a;simp only [aj,a,f];rfl
def fG(p:ByteArray)(k:Nat)(d:Dc):Nat->Nat->List Dc
 | _,0=> []
 | b,n+1=>⟨p++it (k:Int)++us++it (b:Int),d.ea,d.ar,1⟩::fG p k d (b+1) n
def lS(p:ByteArray)(k:Nat):Nat->Nat->Bool->Bool
 | _,0,ok=>ok
 | b,n+1,ok=>lS p k (b+1) n (ok && decide (((p++it (k:Int)++us++it (b:Int)).size:Int)<=12))
def cD(p:ByteArray):Nat->List Dc->List Dc
 | _,[]=> []
 | k,d::r=>(if aE d.so then fG p k d 0 (d.so - 10).toNat else [d])++cD p (k+1) r
def hH(p:ByteArray):Nat->List Dc->Bool->Bool
 | _,[],ok=>ok
 | k,d::r,ok=>hH p (k+1) r (if aE d.so then lS p k 0 (d.so - 10).toNat ok else ok)
theorem tY(p:ByteArray)(k:Nat)(d:Dc):∀(n b:Nat),(fG p k d b n).length=n
 | 0,_=>rfl
 | n+1,b=>by rw [fG,QJ,tY p k d n]
theorem iE(e:Bool)(l:List Int)(a:e=true->l= [])(hl:l.length<=1000000):∃x,Or (.call 18) [ab e l] []=some [x]/\x.an 1=some (e,enc l):=by
 refine⟨_,F4 e l a hl, ?_⟩;cases e with
 | true=>rw [a rfl];rfl
 | false=>rfl
theorem gR(v x:Bool):(bif v then x else false)= (v && x):=by cases v <;> rfl
def oM(d:Dc):List T:= [T.str d.nm,T.ab 1 d.ea (enc d.ar),ti d.so]
theorem EC{p:ByteArray}{ed:Bool}{ds:List Dc}{k w:Nat}{d:Dc}(y:p.size<=100)(v:k<=100)(h:d.ea=true->d.ar= [])(u:d.ar.length<=1000)(z:w<=100){r:List T}:∀(n b:Nat) (a:List Dc) (ok:Bool),b+n=w->a.length+n<=100000->
  Or lu [AV.t (T.str p),o0,B (lS p k b n ok),AV.t (T.ab 3 ed (aI ds)),I (ds.length:Int),I ((k+1:Nat):Int)] [ad.sl false 3 false ((a++fG p k d b n).map oM)]=some r->
  Or mS [AV.t (T.str p),o0,B ok,I (k:Int),r1,AV.t (T.ab 3 ed (aI ds)),I (ds.length:Int),I (k:Int),I (w:Int),I (b:Int)] [ad.sl false 3 false (a.map oM),ad.box [AV.t (T.str d.nm),ab d.ea d.ar,I d.so]]=some r:=by
 have f:eF (k:Int):=⟨by omega,by omega⟩;have A:=iy f;intro n;induction n with
 | zero=>
  intro b a ok o hl c;have g:¬(b:Int) < (w:Int):=by omega
  rw [fG,QX,lS] at c;refine ah ?_;rw [BN];simp only [aj,↓reduceIte,g,next k (by omega)];exact c
 | succ n s=>
  intro b a ok o hl c;have g:(b:Int) < (w:Int):=by omega
  have e:eF (b:Int):=⟨by omega,by omega⟩;have C:=iy e;have l:p.size+ (it (k:Int)).size<=4294967296:=by omega
  have m:(p++it (k:Int)).size+1<=4294967296:=by rw [QZ];omega
  have c3:(p++it (k:Int)++us).size+ (it (b:Int)).size<=4294967296:=by simp only [QZ,gf];omega
  obtain⟨x,j,q⟩:=iE d.ea d.ar h (by omega);rw [fG,lS] at c;have i:=s (b+1) (a++ [⟨p++it (k:Int)++us++it (b:Int),d.ea,d.ar,1⟩]) _ (by omega) (by simp;omega) (by simpa only [Q6,Rf] using c);rw [SD] at i;refine ah ?_;rw [BN];simp only [aj,↓reduceIte,g,iF f,iF e,l,m,c3,j,q,Rr,QM,cC (show a.length+1<=1000000 by omega),next b (by omega),gR];exact i
theorem EB{p:ByteArray}{ed:Bool}{ds:List Dc}(s:p.size<=100)(hl:ds.length<=100)(f:∀d∈ds,d.ea=true->d.ar= [])(h:∀d∈ds,d.ar.length<=1000):∀(r:List Dc) (k:Nat) (a:List Dc) (ok:Bool),ds.drop k=r->k<=ds.length->a.length<=100 * k->
  Or lu [AV.t (T.str p),o0,B ok,AV.t (T.ab 3 ed (aI ds)),I (ds.length:Int),I (k:Int)] [ad.sl false 3 false (a.map oM)]=some [T.ab 3 false ((a++cD p k r).map oM),tb (hH p k r ok && decide ((((a++cD p k r).length:Nat):Int)<=30))]:=by
 intro r;induction r with
 | nil=>
  intro k a ok g q o;have e:¬(k:Int) < (ds.length:Int):=by have:=bh g;omega
  rw [cD,hH,QX];refine ah ?_;rw [xA];simp only [aj,↓reduceIte,e,Rr,gR]
 | cons d r m=>
  intro k a ok g q o;obtain⟨i,A,l⟩:=bm g;have hm:=QH i;have e:(k:Int) < (ds.length:Int):=by omega
  have h0: 0<=(k:Int):=by omega
  have b:=fZ d.so;obtain⟨x,n,u⟩:=iE d.ea d.ar (f d hm) (by have:=h d hm;omega);rw [cD,hH];cases j:aE d.so with
  | false=>rw [j] at b;have c:=m (k+1) (a++ [d]) ok l (by omega) (by simp;omega);simp only [Q6,Rf] at c;rw [SD] at c;simp only [Q9,↓reduceIte,Rf];refine ah ?_;rw [xA];simp only [aj,↓reduceIte,e,h0,and_self,cj,dF i,b,n,u,Rr,QM,cC (show a.length+1<=1000000 by omega),next k (by omega)];exact c
  | true=>
   rw [j] at b;have z:=gw j;have c:=m (k+1) (a++fG p k d 0 (d.so - 10).toNat) (lS p k 0 (d.so - 10).toNat ok) l (by omega) (by simp [tY];omega);have v:=EC (p:=p) (ed:=ed) (ds:=ds) (k:=k) (w:=(d.so - 10).toNat) (d:=d) s (by omega) (f d hm) (h d hm) (by omega) (d.so - 10).toNat 0 a ok (by omega) (by omega) c;have y:i64.wrap (d.so - 10)= ((d.so - 10).toNat:Int):=by rw [wr (by omega)];omega
   simp only [↓reduceIte];rw [<-Q6];refine ah ?_;rw [xA];simp only [aj,↓reduceIte,e,h0,and_self,cj,dF i,b,y];exact v
theorem LY{p:ByteArray}{ed:Bool}{ds:List Dc}(j:p.size<=100)(hl:ds.length<=100)(b:∀d∈ds,d.ea=true->d.ar= [])(c:∀d∈ds,d.ar.length<=1000):∃x,Or lu [AV.t (T.str p),AV.t (T.ae true),B true,AV.t (T.ab 3 ed (aI ds)),I (ds.length:Int),I 0] []=some [x,tb (hH p 0 ds true && decide ((((cD p 0 ds).length:Nat):Int)<=30))]/\x.an 3=some ((cD p 0 ds).isEmpty,aI (cD p 0 ds)):=by
 cases a:ds with
 | nil=>refine⟨T.ae true,ah ?_,rfl⟩;rw [xz];simp only [aj,QW,Re,Rl,decide_false];rfl
 | cons d r=>
  have hm:d∈ds:=by rw [a];exact QA
  have q:(0:Int) < (((d::r).length:Nat):Int):=by simp
  have h0:(0:Int)<=0:=by omega
  have o:(aI (d::r))[(0:Int).toNat]? =some [T.str d.nm,T.ab 1 d.ea (enc d.ar),ti d.so]:=rfl;have e:=fZ d.so;have y:i64.wrap (0+1)= ((1:Nat):Int):=by decide
  obtain⟨x,i,u⟩:=iE d.ea d.ar (b d hm) (by have:=c d hm;omega);rw [cD,hH];cases l:aE d.so with
  | false=>rw [l] at e;have f:=EB (p:=p) (ed:=ed) (ds:=ds) j hl b c r 1 [d] true (by rw [a];rfl) (by rw [a];simp) (by simp);rw [a] at f;simp only [Q9,↓reduceIte,Rf];refine⟨T.ab 3 false (([d] ++cD p (0+1) r).map oM),ah ?_,rfl⟩;rw [xz];simp only [aj,↓reduceIte,q,h0,and_self,cj,o,e,i,u,y];exact f
  | true=>
   rw [l] at e;have F:=gw l;obtain⟨n,C⟩:∃n,(d.so - 10).toNat=n+1:=⟨(d.so - 10).toNat - 1,by omega⟩;have h:eF ((0:Nat):Int):=⟨by omega,by omega⟩;have m:=iy h;have z:p.size+ (it 0).size<=4294967296:=by have:(it 0).size<=21:=m;omega
   have A:(p++it 0).size+1<=4294967296:=by have:(it 0).size<=21:=m;rw [QZ];omega
   have c3:(p++it 0++us).size+ (it 0).size<=4294967296:=by have:(it 0).size<=21:=m;simp only [QZ,gf];omega
   have v:Or (.call 44) [I 0] []=some [T.str (it 0)]:=iF h;have f:=EB (p:=p) (ed:=ed) (ds:=ds) j hl b c r 1 (fG p 0 d 0 (n+1)) (lS p 0 0 (n+1) true) (by rw [a];rfl) (by rw [a];simp) (by rw [tY];omega);have D:=EC (p:=p) (ed:=ed) (ds:=ds) (k:=0) (w:=n+1) (d:=d) j (by omega) (b d hm) (c d hm) (by omega) n 1 [⟨p++it 0++us++it 0,d.ea,d.ar,1⟩] (true && decide (((p++it 0++us++it 0).size:Int)<=12)) (by omega) (by simp;omega) f;have E:i64.wrap (d.so - 10)= ((n+1:Nat):Int):=by rw [wr (by omega)];omega
   have s:(0:Int) < ((n+1:Nat):Int):=by omega
   have g:Or mS [AV.t (T.str p),AV.t (T.ae true),B true,I 0,r0,AV.t (T.ab 3 ed (aI ds)),I (ds.length:Int),I 0,I ((n+1:Nat):Int),I 0] [ad.box [AV.t (T.str d.nm),ab d.ea d.ar,I d.so]]=some [T.ab 3 false ((fG p 0 d 0 (n+1)++cD p 1 r).map oM),tb (hH p 1 r (lS p 0 0 (n+1) true) && decide ((((fG p 0 d 0 (n+1)++cD p 1 r).length:Nat):Int)<=30))]:=by refine ah ?_;rw [II];simp only [aj,↓reduceIte,s,v,z,A,c3,i,u,y];exact D
   rw [a] at g;simp only [↓reduceIte,C];refine⟨T.ab 3 false ((fG p 0 d 0 (n+1)++cD p (0+1) r).map oM),ah ?_,rfl⟩;rw [xz];simp only [aj,↓reduceIte,q,h0,and_self,cj,o,e,E];exact g
theorem Ol{p:ByteArray}{ed en eh:Bool}{ds:List Dc}{ns hs:List (List T)}(f:p.size<=100)(hl:ds.length<=100)(a:∀d∈ds,d.ea=true->d.ar= [])(b:∀d∈ds,d.ar.length<=1000):
  ∃x,Or (.call 26) [AV.agg [AV.t (T.ab 3 ed (aI ds)),AV.t (T.ab 5 en ns),AV.t (T.ab 1 eh hs)],AV.t (T.str p)] []=some [x,tb (hH p 0 ds true && decide ((((cD p 0 ds).length:Nat):Int)<=30))]/\x.an 3=some ((cD p 0 ds).isEmpty,aI (cD p 0 ds)):=by
 obtain⟨x,c,e⟩:=LY (p:=p) (ed:=ed) f hl a b;refine⟨x,ah ?_,e⟩;rw [IH];simp only [cj];exact c
open Go Go.Aev Go.IntKind
def iG(c:Cx)(t:Tr)(M:Mk)(x:Nd)(s:Int):Tr×Mk:=
 if aE s then(⟨t.bits++ [(fC c t M x s).1],t.to++ [0]⟩,(fC c t M x s).2)
 else(⟨t.bits++ [[]],t.to++ [(gB t M x).1]⟩,(gB t M x).2)
def hF(c:Cx):List Nd->List Int->Tr->Mk->Tr×Mk
 | x::r,s::q,t,M=>if 800 < (iG c t M x s).2.N.length then iG c t M x s else hF c r q (iG c t M x s).1 (iG c t M x s).2
 | _,_,t,M=>(t,M)
def sH:List T:= [T.ae true,T.ae true,T.ae true,ti 10,ti 0]
def mK(c:Cx)(q:Tr×Mk):List Nd×List Int:=jf q.2.N (c.hs.map (bu q.1))
def kW(c:Cx)(dl:List Dc)(ok:Bool)(q:Tr×Mk):List T:=
 if ok=false\/800 < q.2.N.length then sH
 else if 200 < (mK c q).1.length then sH
 else [T.ab 3 dl.isEmpty (aI dl),T.ab 5 (mK c q).1.isEmpty (aW (mK c q).1),T.ab 1 (mK c q).2.isEmpty (enc (mK c q).2),ti 0,ti 0]
theorem CS(l:List (List Int))(b:List Int):bg l++ [[LO b]]=bg (l++ [b]):=by simp [bg]
theorem Lo(w:List Int)(h: 1<=w.length):T.ab 1 w.isEmpty (enc w)=LO w:=by cases w with
 | nil=>simp at h
 | cons=>rfl
theorem zU{a:Type}(l:List a)(x:a):(l++ [x]).isEmpty=false:=by cases l <;> rfl
theorem cJ.word{c:Cx}{t:Tr}{M f:Mk}{i n:Nat}{s:Int}{w:List Int}(h:cJ c t M i)(hs:c.ss[i]? =some s)(r:aE s=true)(u:Up M f n)(hl:(w.length:Int)=s - 10)(o:∀y∈w,In f y):cJ c ⟨t.bits++ [w],t.to++ [0]⟩ f (i+1):=by
 have m:=h.up u;refine⟨u.ok,by simp [h.bl],by simp [h.tl],λk s' q a d=> ?_,λk s' q a d=> ?_⟩
 .by_cases e:k=i
  .subst e;rw [hs] at a;simp only [Qy] at a;subst a;exact⟨w,by rw [Rg (by rw [h.bl];exact QV _),h.bl,Sc];rfl,hl,o⟩
  .obtain⟨b,g,j,l⟩:=m.w k s' (by omega) a d;exact⟨b,by rw [QT (by rw [h.bl];omega)];exact g,j,l⟩
 .by_cases e:k=i
  .subst e;rw [hs] at a;simp only [Qy] at a;subst a;rw [r] at d;cases d
  .obtain⟨g,v,j,l⟩:=m.p k s' (by omega) a d;exact⟨by rw [QT (by rw [h.bl];omega)];exact g,v,by rw [QT (by rw [h.tl];omega)];exact j,l⟩
theorem cJ.plain{c:Cx}{t:Tr}{M f:Mk}{i n:Nat}{s v:Int}(h:cJ c t M i)(hs:c.ss[i]? =some s)(r:aE s=false)(u:Up M f n)(o:In f v):cJ c ⟨t.bits++ [[]],t.to++ [v]⟩ f (i+1):=by
 have m:=h.up u;refine⟨u.ok,by simp [h.bl],by simp [h.tl],λk s' q a d=> ?_,λk s' q a d=> ?_⟩
 .by_cases e:k=i
  .subst e;rw [hs] at a;simp only [Qy] at a;subst a;rw [r] at d;cases d
  .obtain⟨b,g,j,l⟩:=m.w k s' (by omega) a d;exact⟨b,by rw [QT (by rw [h.bl];omega)];exact g,j,l⟩
 .by_cases e:k=i
  .subst e;exact⟨by rw [Rg (by rw [h.bl];exact QV _),h.bl,Sc];rfl,v,by rw [Rg (by rw [h.tl];exact QV _),h.tl,Sc];rfl,o⟩
  .obtain⟨g,x,j,l⟩:=m.p k s' (by omega) a d;exact⟨by rw [QT (by rw [h.bl];omega)];exact g,x,by rw [QT (by rw [h.tl];omega)];exact j,l⟩
structure px (c:Cx):Prop where
 sl:c.ss.length=c.ns.length
 nl:c.ns.length<=200
 dl:c.ds.length<=30
 hl:c.hs.length<=200
 ds:∀d∈c.ds,d.nm.size<=12
 nd:∀(i:Nat) (x:Nd) (s:Int),c.ns[i]? =some x->c.ss[i]? =some s->pL c i x s
 ho:∀k∈c.hs,0<=k/\c.ss[k.toNat]? =some 1
theorem GB{c:Cx}(ok:px c){t:Tr}{M:Mk}{i:Nat}{x:Nd}{s:Int}(d:c.ns[i]? =some x)(hs:c.ss[i]? =some s)(a:cJ c t M i)(g:c.p.size<=100)(f:M.N.length<=40000):
  cJ c (iG c t M x s).1 (iG c t M x s).2 (i+1)/\Up M (iG c t M x s).2 1000:=by
 unfold iG;cases b:aE s with
 | true=>obtain⟨_,u,e,hl⟩:=G4 d hs b (ok.nd i x s d hs) a (by have:=ok.dl;omega) g f;exact⟨a.word hs b u hl e,u⟩
 | false=>obtain⟨_,u,e⟩:=Fi d b (ok.nd i x s d hs) a f;exact⟨a.plain hs b u e,u⟩
abbrev HU(c:Cx):ad:=ad.box [AV.t (T.ab 3 c.ed (aI c.ds)),AV.t (T.ab 5 c.en (aW c.ns)),AV.t (T.ab 1 c.eh (enc c.hs))]
abbrev n6:ad:=ad.box [I 0,I 0]
abbrev GJ(c:Cx):ad:=ad.box [Y'4,AV.t (T.ab 3 c.ed (aI c.ds)),AV.t (T.ab 5 c.en (aW c.ns)),AV.t (T.ab 1 c.eh (enc c.hs)),AV.t (T.str c.p),AV.t (T.ab 1 c.es (enc c.ss)),V'5,V'6]
theorem Nb{c:Cx}{t:Tr}{M:Mk}{dl:List Dc}{n:Nat}(ok:px c)(J:n=c.ns.length)(q:cJ c t M n)(H:M.N.length<=800):∀(h:List Int) (j:Nat) (a:List Int),c.hs.drop j=h->j<=c.hs.length->a.length=j->a++h.map (bu t)=c.hs.map (bu t)->
  Or pK [Y'0,Y'1,Y'2,Y'3,ab c.eh c.hs,I (c.hs.length:Int),I (j:Int)] [cL,n6,GJ c,ad.box [AV.t (T.ab 3 dl.isEmpty (aI dl)),V'7,V'8],ad.box [V'7,V'9],ad.sl false 1 t.bits.isEmpty (bg t.bits),ad.sl false 1 t.to.isEmpty (enc t.to),ad.rows M.N.isEmpty 5 1 1 M.N.length (rows M.N),ad.sl false 1 a.isEmpty (enc a),ad.mp false [Ck.s] (Ck.i .i64) (bZ M.K)]=some (kW c dl true (t,M)):=by
 have m:∀k∈c.hs,0<=k/\t.to[k.toNat]? =some (bu t k)/\In M (bu t k):=λk l=>by obtain⟨d,b⟩:=ok.ho k l;have F:k.toNat < c.ss.length:=(QC.1 b).1;have u:KW c n k 1:=⟨d,by have:=ok.sl;omega,b⟩;exact⟨d,(u.plain q vf).2⟩
 intro h;induction h with
 | nil=>
  intro j a g B e f;have d:¬(j:Int) < (c.hs.length:Int):=by have:=bh g;omega
  rw [Rz,QX] at f;have w:=OB (N:=M.N) (eh:=a.isEmpty) (ed:=dl.isEmpty) (hold:=a) (ds:=aI dl) (by omega) (by have:=ok.hl;omega) (λx C=>by obtain⟨i,A⟩:=RJ C;exact q.ok.kl i x A) q.ok.ks (λk l=>by
   rw [f] at l;obtain⟨E,hm,rfl⟩:=Rb.1 l;exact(m E hm).2.2)
  unfold kW mK;rw [<-f];refine ah ?_;rw [CN];simp only [aj,↓reduceIte,d,w,Ln,cH];have o:¬(true=false\/800 < M.N.length):=by simp;omega
  rw [if_neg o];by_cases b: 200 < (jf M.N a).1.length
  .have p:((aW (jf M.N a).1).length:Int) > 200:=by rw [dA];omega
   rw [if_pos b];simp only [↓reduceIte,p];rfl
  .have p:¬((aW (jf M.N a).1).length:Int) > 200:=by rw [dA];omega
   rw [if_neg b];simp only [↓reduceIte,p]
 | cons k h D=>
  intro j a g B e f;obtain⟨r,G,z⟩:=bm g;have d:(j:Int) < (c.hs.length:Int):=by omega
  have h0: 0<=(j:Int):=by omega
  obtain⟨L,y,_⟩:=m k (QH r);have b: 0<=k/\k < (t.to.length:Int):=by have:=(QC.1 y).1;omega
  have v:=D (j+1) (a++ [bu t k]) z (by omega) (by simp [e]) (by rw [<-f];simp);rw [zU] at v;refine ah ?_;rw [CN];simp only [aj,↓reduceIte,d,h0,and_self,aC,bH r,b,fj y,QM,cC (show a.length+1<=1000000 by have:=ok.hl;omega),next j (by have:=ok.hl;omega),eK];exact v
abbrev M9(c:Cx)(t:Tr)(M:Mk):List ad:= [HU c,cL,n6,GJ c,ad.box [V'7,V'8],ad.sl false 1 t.bits.isEmpty (bg t.bits),ad.sl false 1 t.to.isEmpty (enc t.to),ad.rows M.N.isEmpty 5 1 1 M.N.length (rows M.N),ad.mp false [Ck.s] (Ck.i .i64) (bZ M.K)]
theorem Nc{c:Cx}{dl:List Dc}{okb:Bool}(ok:px c)(F:c.p.size<=100):∀(rn:List Nd) (rs:List Int) (i:Nat) (t:Tr) (M:Mk),c.ns.drop i=rn->c.ss.drop i=rs->i<=c.ns.length->cJ c t M i->M.N.length<=800->
  Or rF [r0,r1,Y'2,ab c.es c.ss,AV.t (T.ab 3 dl.isEmpty (aI dl)),B okb,Y'3,I (c.ns.length:Int),I (i:Int)] (M9 c t M)=some (kW c dl okb (hF c rn rs t M)):=by
 intro rn;induction rn with
 | nil=>
  intro rs i t M o w K f A;have k:¬(i:Int) < (c.ns.length:Int):=by have:=bh o;omega
  have D:i=c.ns.length:=by have:=bh o;omega
  have a:¬(M.N.length:Int) > 800:=by omega
  have y:hF c [] rs t M= (t,M):=by simp [hF]
  rw [y];cases okb with
  | false=>refine ah ?_;rw [qk];simp only [aj,↓reduceIte,k];rfl
  | true=>have m:=Nb (dl:=dl) ok D f A c.hs 0 [] rfl (RL _) rfl rfl;refine ah ?_;rw [qk];simp only [aj,k,aQ,a,decide_false,aC];exact m
 | cons x rn L=>
  intro rs i t M o w K f A;obtain⟨n,P,H⟩:=bm o;cases rs with
  | nil=>exact absurd (bh w) (by have:=ok.sl;omega)
  | cons s rs=>
   obtain⟨g,Q,J⟩:=bm w;have k:(i:Int) < (c.ns.length:Int):=by omega
   have q: 0<=(i:Int)/\(i:Int) < (c.ss.length:Int):=by omega
   have e:=fZ s;obtain⟨fc,jG⟩:=GB ok n g f F (by omega);have d:=λa=>L rs (i+1) _ _ H J (by omega) fc a;have G:=next i (by have:=ok.nl;omega);rw [hF];cases l:aE s with
   | true=>
    rw [l] at e;obtain⟨r,u,C,hl⟩:=G4 n g l (ok.nd i x s n g) f (by have:=ok.dl;omega) F (by omega);have O:=gw l;have es:iG c t M x s= (⟨t.bits++ [(fC c t M x s).1],t.to++ [0]⟩,(fC c t M x s).2):=by unfold iG;rw [l];rfl
    rw [es] at d fc⊢;dsimp only at d fc⊢;have h:bp 24 (t.bits.length+1)=some ():=cC (by have:=f.bl;have:=ok.nl;omega);have j:bp 8 (t.to.length+1)=some ():=cC (by have:=f.tl;have:=ok.nl;omega);have E:=Lo (fC c t M x s).1 (by omega);have y: [T.int i64 0]= [ti 0]:=rfl;by_cases a: 800 < (fC c t M x s).2.N.length
    .have b:((fC c t M x s).2.N.length:Int) > 800:=by omega
     rw [if_pos a];have er:kW c dl okb (⟨t.bits++ [(fC c t M x s).1],t.to++ [0]⟩,(fC c t M x s).2)=sH:=by unfold kW;rw [if_pos (.inr a)]
     rw [er];refine ah ?_;rw [qk];simp (maxSteps:=1000000) only [aj,↓reduceIte,k,q,and_self,aC,bH g,e,r,aV,aU,QD,aQ,cW,nf,QM,h,j,b,decide_true];cases okb <;> rfl
    .have b:¬((fC c t M x s).2.N.length:Int) > 800:=by omega
     rw [if_neg a];have m:=d (by omega);simp only [M9,zU] at m;refine ah ?_;rw [qk];simp (maxSteps:=1000000) only [aj,↓reduceIte,k,q,and_self,aC,bH g,e,r,aV,aU,QD,aQ,cW,cH,nf,QM,h,j,b,E,CS,eK,G];exact m
   | false=>
    rw [l] at e;obtain⟨v,u,C⟩:=Fi n l (ok.nd i x s n g) f (by omega);have es:iG c t M x s= (⟨t.bits++ [[]],t.to++ [(gB t M x).1]⟩,(gB t M x).2):=by unfold iG;rw [l];rfl
    rw [es] at d fc⊢;dsimp only at d fc⊢;have h:bp 24 (t.bits.length+1)=some ():=cC (by have:=f.bl;have:=ok.nl;omega);have j:bp 8 (t.to.length+1)=some ():=cC (by have:=f.tl;have:=ok.nl;omega);by_cases a: 800 < (gB t M x).2.N.length
    .have b:((gB t M x).2.N.length:Int) > 800:=by omega
     rw [if_pos a];have er:kW c dl okb (⟨t.bits++ [[]],t.to++ [(gB t M x).1]⟩,(gB t M x).2)=sH:=by unfold kW;rw [if_pos (.inr a)]
     rw [er];refine ah ?_;rw [qk];simp (maxSteps:=1000000) only [aj,↓reduceIte,k,q,and_self,aC,bH g,e,v,aV,aU,QD,aQ,cW,nf,QM,h,j,b,decide_true];cases okb <;> rfl
    .have b:¬((gB t M x).2.N.length:Int) > 800:=by omega
     rw [if_neg a];have m:=d (by omega);simp only [M9,zU] at m;have z:bg t.bits++ [[T.ae true]]=bg (t.bits++ [[]]):=CS t.bits [];refine ah ?_;rw [qk];simp (maxSteps:=1000000) only [aj,↓reduceIte,k,q,and_self,aC,bH g,e,v,aV,aU,QD,aQ,cW,nf,QM,h,j,b,z,eK,G];exact m
open Go Go.Aev Go.IntKind
structure As where
 ed:Bool
 ds:List Dc
 en:Bool
 ns:List Nd
 eh:Bool
 hs:List Int
abbrev AG(a:As):AV:=AV.agg [AV.t (T.ab 3 a.ed (aI a.ds)),AV.t (T.ab 5 a.en (aW a.ns)),AV.t (T.ab 1 a.eh (enc a.hs))]
abbrev rK(a:As):ad:=ad.box [AV.t (T.ab 3 a.ed (aI a.ds)),AV.t (T.ab 5 a.en (aW a.ns)),AV.t (T.ab 1 a.eh (enc a.hs))]
structure n7 (a:As):Prop where
 d:∀d∈a.ds,d.ea=true->d.ar= []
 n:∀x∈a.ns,x.ek=true->x.ks= []
 h:a.eh=true->a.hs= []
theorem Ks(l:List Dc)(d:Dc):aI l++ [[T.str d.nm,T.ab 1 d.ea (enc d.ar),T.int .i64 d.so]]=aI (l++ [d]):=by simp [aI]
theorem CU(l:List Nd)(x:Nd):aW l++ [[T.int .i64 x.op,T.ab 1 x.ek (enc x.ks),T.int .i64 x.n,T.int .i64 x.d,T.str x.nm]]=aW (l++ [x]):=by simp [aW]
theorem LV{e eh:Bool}{ns:List Nd}{hs:List Int}{dl:List (List T)}(hl:ns.length<=1000)(o:∀x∈ns,x.ek=true->x.ks= [])(h:∀x∈ns,x.ks.length<=1000):∀(r:List Nd) (i:Nat) (a:List Nd),ns.drop i=r->i<=ns.length->a.length=i->
  Or ig [r0,r1,AV.t (T.ab 5 e (aW ns)),I (ns.length:Int),I (i:Int)] [cL,ad.box [o2,o3,o4],ad.sl false 3 false dl,ad.sl false 5 false (aW a),ad.sl false 1 eh (enc hs)]=some [T.ab 3 false dl,T.ab 5 false (aW (a++r)),T.ab 1 eh (enc hs)]/\
  Or ig [r0,r1,AV.t (T.ab 5 e (aW ns)),I (ns.length:Int),I (i:Int)] [cL,ad.box [AV.t (T.ae true),o2,o3],ad.sl false 5 false (aW a),ad.sl false 1 eh (enc hs)]=some [T.ae true,T.ab 5 false (aW (a++r)),T.ab 1 eh (enc hs)]:=by
 intro r;induction r with
 | nil=>
  intro i a g n c;have b:¬(i:Int) < (ns.length:Int):=by have:=bh g;omega
  rw [QX];refine⟨ah ?_,ah ?_⟩
  .rw [BM];simp only [aj,↓reduceIte,b]
  .rw [BL];simp only [aj,↓reduceIte,b]
 | cons x r p=>
  intro i a g n c;obtain⟨f,q,m⟩:=bm g;have hm:=QH f;have b:(i:Int) < (ns.length:Int):=by omega
  have h0: 0<=(i:Int):=by omega
  obtain⟨y,d,j⟩:=iE x.ek x.ks (o x hm) (by have:=h x hm;omega);obtain⟨k,l⟩:=p (i+1) (a++ [x]) m (by omega) (by simp [c]);simp only [Q6,Rf] at k l;refine⟨ah ?_,ah ?_⟩
  .rw [BM];simp only [aj,↓reduceIte,b,h0,and_self,dA,fi f,d,j,QM,cC (show a.length+1<=1000000 by omega),next i (by omega),CU];exact k
  .rw [BL];simp only [aj,↓reduceIte,b,h0,and_self,dA,fi f,d,j,QM,cC (show a.length+1<=1000000 by omega),next i (by omega),CU];exact l
theorem LW{e eh:Bool}{ns:List Nd}{hs:List Int}{dl:List (List T)}(hl:ns.length<=1000)(h:∀x∈ns,x.ek=true->x.ks= [])(b:∀x∈ns,x.ks.length<=1000):
  (∃z,Or ig [r0,r1,AV.t (T.ab 5 e (aW ns)),I (ns.length:Int),I 0] [cL,ad.box [o2,AV.t (T.ae true),o3],ad.sl false 3 false dl,ad.sl false 1 eh (enc hs)]=some [T.ab 3 false dl,z,T.ab 1 eh (enc hs)]/\z.an 5=some (ns.isEmpty,aW ns))/\
  (∃z,Or ig [r0,r1,AV.t (T.ab 5 e (aW ns)),I (ns.length:Int),I 0] [cL,ad.box [AV.t (T.ae true),AV.t (T.ae true),o2],ad.sl false 1 eh (enc hs)]=some [T.ae true,z,T.ab 1 eh (enc hs)]/\z.an 5=some (ns.isEmpty,aW ns)):=by
 cases a:ns with
 | nil=>
  refine⟨⟨T.ae true,ah ?_,rfl⟩,⟨T.ae true,ah ?_,rfl⟩⟩
  .rw [BK];simp only [aj,QW,Re,Rl,decide_false]
  .rw [BJ];simp only [aj,QW,Re,Rl,decide_false]
 | cons x r=>
  have hm:x∈ns:=by rw [a];exact QA
  have g:(0:Int) < (((x::r).length:Nat):Int):=by simp
  have h0:(0:Int)<=0:=by omega
  have f:(aW (x::r))[(0:Int).toNat]? =some [ti x.op,T.ab 1 x.ek (enc x.ks),ti x.n,ti x.d,T.str x.nm]:=rfl;have j:i64.wrap (0+1)= ((1:Nat):Int):=by decide
  obtain⟨y,c,i⟩:=iE x.ek x.ks (h x hm) (by have:=b x hm;omega);obtain⟨k,l⟩:=LV (e:=e) (eh:=eh) (ns:=ns) (hs:=hs) (dl:=dl) hl h b r 1 [x] (by rw [a];rfl) (by rw [a];simp) rfl;rw [a] at k l;refine⟨⟨T.ab 5 false (aW ([x] ++r)),ah ?_,rfl⟩,⟨T.ab 5 false (aW ([x] ++r)),ah ?_,rfl⟩⟩
  .rw [BK];simp only [aj,↓reduceIte,g,h0,and_self,dA,f,c,i,j];exact k
  .rw [BJ];simp only [aj,↓reduceIte,g,h0,and_self,dA,f,c,i,j];exact l
theorem LU{a:As}{e eh:Bool}{hs:List Int}(hl:a.ds.length<=1000)(s:∀d∈a.ds,d.ea=true->d.ar= [])(l:∀d∈a.ds,d.ar.length<=1000){z:T}
  (m:Or ig [r0,r1,AV.t (T.ab 5 a.en (aW a.ns)),I (a.ns.length:Int),I 0] [cL,ad.box [o2,AV.t (T.ae true),o3],ad.sl false 3 false (aI a.ds),ad.sl false 1 eh (enc hs)]=some [T.ab 3 false (aI a.ds),z,T.ab 1 eh (enc hs)]):∀(r:List Dc) (i:Nat) (b:List Dc),a.ds.drop i=r->i<=a.ds.length->b.length=i->b++r=a.ds->
  Or mR [r0,r1,Y'2,AV.t (T.ab 3 e (aI a.ds)),I (a.ds.length:Int),I (i:Int)] [rK a,cL,ad.box [o3,AV.t (T.ae true),o4],ad.sl false 3 false (aI b),ad.sl false 1 eh (enc hs)]=some [T.ab 3 false (aI a.ds),z,T.ab 1 eh (enc hs)]:=by
 intro r;induction r with
 | nil=>
  intro i b g p h f;have j:¬(i:Int) < (a.ds.length:Int):=by have:=bh g;omega
  rw [QX] at f;rw [<-f] at m;refine ah ?_;rw [BI,<-f];rw [<-f] at j;simp only [aj,↓reduceIte,j,dA];exact m
 | cons d r v=>
  intro i b g p h f;obtain⟨k,w,o⟩:=bm g;have hm:=QH k;have j:(i:Int) < (a.ds.length:Int):=by omega
  have h0: 0<=(i:Int):=by omega
  obtain⟨y,n,u⟩:=iE d.ea d.ar (s d hm) (by have:=l d hm;omega);have q:=v (i+1) (b++ [d]) o (by omega) (by simp [h]) (by rw [<-f];simp);refine ah ?_;rw [BI];simp only [aj,↓reduceIte,j,h0,and_self,cj,dF k,n,u,QM,cC (show b.length+1<=1000000 by omega),next i (by omega),Ks];exact q
theorem Oi{a:As}(wf:n7 a)(l:a.ds.length<=1000)(o:a.ns.length<=1000)(G:a.hs.length<=1000)(f:∀d∈a.ds,d.ar.length<=1000)(m:∀x∈a.ns,x.ks.length<=1000):
  ∃x y z,Or (.call 24) [AG a] []=some [x,y,z]/\x.an 3=some (a.ds.isEmpty,aI a.ds)/\y.an 5=some (a.ns.isEmpty,aW a.ns)/\z.an 1=some (a.eh,enc a.hs):=by
 obtain⟨v,g,p⟩:=iE a.eh a.hs wf.h (by omega);obtain⟨⟨q,B,C⟩,⟨s,D,E⟩⟩:=LW (e:=a.en) (eh:=a.eh) (ns:=a.ns) (hs:=a.hs) (dl:=aI a.ds) o wf.n m;cases b:a.ds with
 | nil=>
  have i:Or mR [r0,r1,Y'2,AV.t (T.ab 3 a.ed (aI a.ds)),I (a.ds.length:Int),I 0] [rK a,cL,ad.box [AV.t (T.ae true),AV.t (T.ae true),o3],ad.sl false 1 a.eh (enc a.hs)]=some [T.ae true,s,T.ab 1 a.eh (enc a.hs)]:=by refine ah ?_;rw [BH,b];simp only [aj,QW,Re,Rl,decide_false,dA];exact D
  refine⟨T.ae true,s,T.ab 1 a.eh (enc a.hs),ah ?_,rfl,E,by rw [bU]⟩;rw [BG];simp only [aj,g,p,cj];exact i
 | cons d r=>
  have hm:d∈a.ds:=by rw [b];exact QA
  have j:=LU (a:=a) (e:=a.ed) (eh:=a.eh) (hs:=a.hs) l wf.d f B r 1 [d] (by rw [b];rfl) (by rw [b];simp) rfl (by rw [b];rfl);have w:(0:Int) < (((d::r).length:Nat):Int):=by simp
  have h0:(0:Int)<=0:=by omega
  have u:(aI (d::r))[(0:Int).toNat]? =some [T.str d.nm,T.ab 1 d.ea (enc d.ar),ti d.so]:=rfl;have F:i64.wrap (0+1)= ((1:Nat):Int):=by decide
  obtain⟨y,k,A⟩:=iE d.ea d.ar (wf.d d hm) (by have:=f d hm;omega);have i:Or mR [r0,r1,Y'2,AV.t (T.ab 3 a.ed (aI a.ds)),I (a.ds.length:Int),I 0] [rK a,cL,ad.box [AV.t (T.ae true),AV.t (T.ae true),o3],ad.sl false 1 a.eh (enc a.hs)]=some [T.ab 3 false (aI a.ds),q,T.ab 1 a.eh (enc a.hs)]:=by refine ah ?_;rw [BH,b];rw [b] at j;simp only [aj,↓reduceIte,w,h0,and_self,cj,u,k,A,F];rw [<-b] at j⊢;exact j
  refine⟨T.ab 3 false (aI a.ds),q,T.ab 1 a.eh (enc a.hs),ah ?_,by rw [b];rfl,C,by rw [bU]⟩;rw [BG];simp only [aj,g,p,cj];exact i
def jT(a:As)(es:Bool)(ss:List Int):Cx:=⟨a.ed,a.ds,a.en,a.ns,a.eh,a.hs,dm a.ds,es,ss⟩
def uv(a:As)(es:Bool)(ss:List Int):List T:=
 if pr a.ds ss then kW (jT a es ss) (cD (dm a.ds) 0 a.ds) (hH (dm a.ds) 0 a.ds true && decide ((((cD (dm a.ds) 0 a.ds).length:Nat):Int)<=30)) (hF (jT a es ss) a.ns ss ⟨[],[]⟩ ⟨[],[]⟩)
 else [T.ab 3 a.ds.isEmpty (aI a.ds),T.ab 5 a.ns.isEmpty (aW a.ns),T.ab 1 a.eh (enc a.hs),ti 0,ti 0]
theorem s9{a:As}{es:Bool}{ss:List Int}(wf:n7 a)(ok:px (jT a es ss))(e:∀d∈a.ds,d.ar.length<=1000){x:T}(g:Or (.call 22) [AG a] []=some [x,ti 0,ti 0])(o:x.an 1=some (es,enc ss)):
  Or (.call 9) [AG a] []=some (uv a es ss):=by
 have D:a.ds.length<=30:=ok.dl;have F:a.ns.length<=200:=ok.nl;have E:a.hs.length<=200:=ok.hl;have m:ss.length=a.ns.length:=ok.sl;have f:∀d∈a.ds,d.nm.size<=12:=ok.ds;have b:=Oh (ed:=a.ed) (en:=a.en) (eh:=a.eh) (es:=es) (ds:=a.ds) (ns:=aW a.ns) (hs:=enc a.hs) (ss:=ss) (by omega) (by omega);unfold uv;cases n:pr a.ds ss with
 | false=>
  rw [n] at b;obtain⟨H,I,J,q,v,w,z⟩:=Oi wf (by omega) (by omega) (by omega) e (λx hm=>by
   obtain⟨i,j⟩:=RJ hm;have l:i < ss.length:=by rw [m];exact(QC.1 j).1
   have:=(ok.nd i x _ j (QK l)).kl;omega)
  refine ah ?_;rw [e9];simp only [aj,↓reduceIte,g,o,b,q,v,w,z];rfl
 | true=>
  rw [n] at b;have r:=Oj (ed:=a.ed) (en:=a.en) (eh:=a.eh) (ns:=aW a.ns) (hs:=enc a.hs) (show a.ds.length<=100 by omega) f;have G:(dm a.ds).size<=12:=zk f 11 us (by rw [gf];omega);obtain⟨y,u,C⟩:=Ol (p:=dm a.ds) (ed:=a.ed) (en:=a.en) (eh:=a.eh) (ds:=a.ds) (ns:=aW a.ns) (hs:=enc a.hs) (by omega) (by omega) wf.d e;have h0:cJ (jT a es ss) ⟨[],[]⟩ ⟨[],[]⟩ 0:=⟨⟨λi x h=>(by simp at h),λi x h=>(by simp at h),λp h=>(by cases h),λi x h=>(by simp at h),λi x h=>(by simp at h)⟩,rfl,rfl,λk s h=>by omega,λk s h=>by omega⟩;have hl:=Nc (dl:=cD (dm a.ds) 0 a.ds) (okb:=hH (dm a.ds) 0 a.ds true && decide ((((cD (dm a.ds) 0 a.ds).length:Nat):Int)<=30)) ok (show(dm a.ds).size<=100 by omega) a.ns ss 0 ⟨[],[]⟩ ⟨[],[]⟩ rfl rfl (RL _) h0 (by simp);have A:Or wP [r0,r1,Y'2,ab es ss,AV.t (T.ab 3 (cD (dm a.ds) 0 a.ds).isEmpty (aI (cD (dm a.ds) 0 a.ds))),B (hH (dm a.ds) 0 a.ds true && decide ((((cD (dm a.ds) 0 a.ds).length:Nat):Int)<=30)),Y'3,Y'3,Y'4] (M9 (jT a es ss) ⟨[],[]⟩ ⟨[],[]⟩)=some (kW (jT a es ss) (cD (dm a.ds) 0 a.ds) (hH (dm a.ds) 0 a.ds true && decide ((((cD (dm a.ds) 0 a.ds).length:Nat):Int)<=30)) (hF (jT a es ss) a.ns ss ⟨[],[]⟩ ⟨[],[]⟩)):=by refine ah ?_;rw [Kq];simp only [dA];exact hl
  simp only [↓reduceIte];refine ah ?_;rw [e9];simp only [aj,↓reduceIte,g,o,b,r,u,C];exact A
end Go.Aev.Gen
