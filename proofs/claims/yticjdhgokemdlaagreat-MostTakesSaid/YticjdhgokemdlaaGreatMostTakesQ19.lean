import Derived.Test.YticjdhgokemdlaaGreatMostTakesQ18
set_option linter.unusedSimpArgs false
set_option linter.unusedVariables false
namespace Go.Aev.Wd.Lg
open Go Go.Aev Go.Aev.Gen Go.Aev.Wd Go.Aev.Tb
theorem d21(a b:Int):Or (.call 21) [I a,I b] []=some [ti a,ti b]:=s8 a b
theorem d50(a:Int):Or (.call 50) [I a] []=some [tb (decide (a<=1000000/\a>= -1000000))]:=s43 a
theorem Ek(el:Bool)(gl:List Int)(hl:gl.length<=1000):∀(rest:List Int) (i:Nat) (c a:Int),gl.drop i=rest->
  Or it [lst el gl,r0,AV.ref (Id.c 1) 0,I (i:Int)] [Blk.box [I 0,I 0],Blk.box [I c,I a]]=fl (if c=0 then(if(glX rest i).1=0 then(c,a) else glX rest i) else(c,a)):=by
 intro rest
 induction rest with
 | nil=>
  intro i c a h
  have h1:¬(i:Int) < (gl.length:Int):=by have:=ax h;omega
  have hg:(if c=0 then(if(glX [] i).1=0 then(c,a) else glX [] i) else(c,a))= (c,a):=by
   split
   ·rfl
   ·rfl
  rw [hg]
  refine aa ?_
  rw [lG]
  simp only [STL,↓reduceIte,Int.reduceBEq,Int.reduceEq,GD,h1,aE]
 | cons x rest ih=>
  intro i c a h
  obtain⟨g1,g2,g3⟩:=ar h
  have h1:(i:Int) < (gl.length:Int):=by omega
  have h0: 0<=(i:Int):=by omega
  by_cases hc:c=0
  ·subst hc
   rw [if_pos rfl]
   by_cases hx: -1000000<=x/\x<=1000000
   ·have k50:=d50 x
    rw [decide_eq_true (by omega)] at k50
    have hg:glX (x::rest) i=glX rest (i+1):=by rw [glX,if_pos hx]
    have:=ih (i+1) 0 a g3
    rw [if_pos rfl] at this
    rw [hg]
    refine aa ?_
    rw [lG]
    simp only [STL,↓reduceIte,Int.reduceBEq,Int.reduceEq,GD,h1,h0,and_self,aE,b9 g1,k50,next i (by omega)]
    exact this
   ·have k50:=d50 x
    rw [decide_eq_false (by omega)] at k50
    have hg:glX (x::rest) i= (5,(i:Int)):=by rw [glX,if_neg hx]
    have h50:¬(5:Int)=0:=by decide
    have:=ih (i+1) 5 (i:Int) g3
    rw [if_neg h50] at this
    have k21:=d21 5 (i:Int)
    rw [hg,if_neg h50]
    refine aa ?_
    rw [lG]
    simp only [STL,↓reduceIte,Int.reduceBEq,Int.reduceEq,GD,h1,h0,and_self,aE,b9 g1,k50,k21,next i (by omega)]
    exact this
  ·have hcb:(c==0)=false:=by simpa using hc
   rw [if_neg hc]
   refine aa ?_
   rw [lG]
   simp only [STL,↓reduceIte,Int.reduceBEq,Int.reduceEq,GD,h1,hcb,aE]
theorem qB(el:Bool)(gl:List Int)(i:Nat){c:Int}(a:Int)(hc:c≠0):Or it [lst el gl,r0,AV.ref (Id.c 1) 0,I (i:Int)] [Blk.box [I 0,I 0],Blk.box [I c,I a]]=fl (c,a):=by
 have hcb:(c==0)=false:=by simpa using hc
 refine aa ?_
 rw [lG]
 by_cases h1:(i:Int) < (gl.length:Int)
 ·simp only [STL,↓reduceIte,Int.reduceBEq,Int.reduceEq,GD,h1,hcb,aE]
 ·simp only [STL,↓reduceIte,Int.reduceBEq,Int.reduceEq,GD,h1,hcb,aE]
theorem DV(er el:Bool)(rows:List R)(n:Int)(gl:List Int)(hn:n<=12)(hr:rows.length<=1000):∀(rest:List R) (i:Nat) (c a:Int),rows.drop i=rest->
  Or io [LR er rows,I n,lst el gl,r0,AV.ref (Id.c 1) 0,I (i:Int)] [Blk.box [I 0,I 0],Blk.box [I c,I a]]=
   fl (if c=0 then(if(kdX rest i).1=0 then(if(gl.length:Int) > n then(9,0) else if(glX gl 0).1=0 then(c,a) else glX gl 0) else kdX rest i) else(c,a)):=by
 have tail:∀(i:Nat) (c a:Int),((bif decide ((i:Int) < (rows.length:Int)) then c==0 else false)=false)->stepO PROG ann Or io [LR er rows,I n,lst el gl,r0,AV.ref (Id.c 1) 0,I (i:Int)] [Blk.box [I 0,I 0],Blk.box [I c,I a]]=
   fl (if c=0 then(if(gl.length:Int) > n then(9,0) else if(glX gl 0).1=0 then(c,a) else glX gl 0) else(c,a)):=by
  intro i c a hb
  rw [mG,au,hb]
  by_cases hc:c=0
  ·subst hc
   rw [if_pos rfl]
   by_cases hg:(gl.length:Int) > n
   ·have k21:=d21 9 0
    have h90:¬(9:Int)=0:=by decide
    have:=qB el gl 0 0 h90
    rw [if_pos hg]
    simp only [STL,↓reduceIte,Int.reduceBEq,Int.reduceEq,GD,aE,hg,decide_true,k21]
    exact this
   ·have:=Ek el gl (by omega) gl 0 0 a rfl
    rw [if_pos rfl] at this
    rw [if_neg hg]
    simp only [STL,↓reduceIte,Int.reduceBEq,Int.reduceEq,GD,aE,hg,decide_false]
    exact this
  ·have hcb:(c==0)=false:=by simpa using hc
   have:=qB el gl 0 a hc
   rw [if_neg hc]
   simp only [STL,↓reduceIte,Int.reduceBEq,Int.reduceEq,GD,aE,hcb]
   exact this
 intro rest
 induction rest with
 | nil=>
  intro i c a h
  have h1:¬(i:Int) < (rows.length:Int):=by have:=ax h;omega
  have ht:=tail i c a (by rw [decide_eq_false h1];rfl)
  refine aa ?_
  rw [ht]
  rfl
 | cons r rest ih=>
  intro i c a h
  obtain⟨g1,g2,g3⟩:=ar h
  have h1:(i:Int) < (rows.length:Int):=by omega
  have h0: 0<=(i:Int):=by omega
  by_cases hc:c=0
  ·subst hc
   rw [if_pos rfl]
   by_cases hk:r.kd=2
   ·have hx:kdX (r::rest) i= (4,(i:Int)):=by rw [kdX,if_pos hk]
    have h40:¬(4:Int)=0:=by decide
    have k21:=d21 4 (i:Int)
    have:=ih (i+1) 4 (i:Int) g3
    rw [if_neg h40] at this
    have hkb:(r.kd==2)=true:=by simpa using hk
    rw [hx,if_neg h40]
    refine aa ?_
    rw [mG]
    simp only [STL,↓reduceIte,Int.reduceBEq,Int.reduceEq,GD,h1,h0,and_self,au,aW g1,hkb,hk,k21,next i (by omega)]
    exact this
   ·have hx:kdX (r::rest) i=kdX rest (i+1):=by rw [kdX,if_neg hk]
    have:=ih (i+1) 0 a g3
    rw [if_pos rfl] at this
    have hkb:(r.kd==2)=false:=by simpa using hk
    rw [hx]
    refine aa ?_
    rw [mG]
    simp only [STL,↓reduceIte,Int.reduceBEq,Int.reduceEq,GD,h1,h0,and_self,au,aW g1,hkb,hk,next i (by omega)]
    exact this
  ·have hcb:(c==0)=false:=by simpa using hc
   have ht:=tail i c a (by rw [hcb];cases decide ((i:Int) < (rows.length:Int)) <;> rfl)
   refine aa ?_
   rw [ht,if_neg hc,if_neg hc]
theorem Bm(er el:Bool)(rows:List R)(n:Int)(gl:List Int)(i:Nat){c:Int}(a:Int)(hc:c≠0):
  Or io [LR er rows,I n,lst el gl,r0,AV.ref (Id.c 1) 0,I (i:Int)] [Blk.box [I 0,I 0],Blk.box [I c,I a]]=fl (c,a):=by
 have hcb:(c==0)=false:=by simpa using hc
 have k:=qB el gl 0 a hc
 have hb:(bif decide ((i:Int) < (rows.length:Int)) then c==0 else false)=false:=by rw [hcb];cases decide ((i:Int) < (rows.length:Int)) <;> rfl
 refine aa ?_
 rw [mG,au,hb]
 simp only [STL,↓reduceIte,Int.reduceBEq,Int.reduceEq,GD,hcb]
 exact k
theorem d20(rows:List R)(er el:Bool)(n:Int)(gl:List Int):Or (.call 20) [LR er rows,I n,lst el gl] []=fl (bI n rows gl):=by
 have k1:=s7n rows er n
 unfold bI
 by_cases h1:(bM n rows).1=0
 ·have hp:=BX h1
  have hb:n<=12/\rows.length<=40:=by
   unfold bM at h1
   split at h1
   ·simp at h1
   ·unfold fA at h1
    split at h1
    ·simp at h1
    ·omega
  have:=DV er el rows n gl hb.1 (by omega) rows 0 (bM n rows).1 (bM n rows).2 rfl
  rw [if_neg (by omega)]
  rw [if_pos h1] at this
  refine aa ?_
  rw [yh]
  simp only [STL,↓reduceIte,Int.reduceBEq,Int.reduceEq,GD,k1]
  by_cases h2:(kdX rows 0).1=0
  ·rw [if_pos h2] at this
   rw [if_neg (by omega)]
   by_cases h4:(gl.length:Int) > n
   ·rw [if_pos h4] at this⊢;exact this
   ·rw [if_neg h4] at this⊢
    by_cases h5:(glX gl 0).1=0
    ·rw [if_pos h5,hp] at this
     rw [mq _ _ h5]
     rw [hp]
     exact this
    ·rw [if_neg h5] at this;exact this
  ·rw [if_neg h2] at this
   rw [if_pos h2];exact this
 ·rw [if_pos h1]
  have:=Bm er el rows n gl 0 (bM n rows).2 h1
  refine aa ?_
  rw [yh]
  simp only [STL,↓reduceIte,Int.reduceBEq,Int.reduceEq,GD,k1]
  exact this
theorem d34(x:Fr):Or (.call 34) [Av x] []=some [tb (decide (FrR x))]:=s9f x
theorem D4(et:Bool)(times:List Fr)(hl:times.length<=1000):∀(rest:List Fr) (i:Nat) (b:Bool),times.drop i=rest->
  Or m9 [LN et times,r0,B b,I (i:Int)] [Blk.box [I 0,I 0]]=fl (if(b && rest.all fun x=>decide (FrR x))=true then(0,0) else(5,0)):=by
 intro rest
 induction rest with
 | nil=>
  intro i b h
  have h1:¬(i:Int) < (times.length:Int):=by have:=ax h;omega
  have k21:=d21 5 0
  cases b
  ·refine aa ?_
   rw [mL]
   simp only [STL,↓reduceIte,Int.reduceBEq,Int.reduceEq,GD,h1,aG,k21]
   rfl
  ·refine aa ?_
   rw [mL]
   simp only [STL,↓reduceIte,Int.reduceBEq,Int.reduceEq,GD,h1,aG,k21]
   rfl
 | cons x rest ih=>
  intro i b h
  obtain⟨g1,g2,g3⟩:=ar h
  have h1:(i:Int) < (times.length:Int):=by omega
  have h0: 0<=(i:Int):=by omega
  have k34:=d34 x
  cases b
  ·have:=ih (i+1) false g3
   rw [Bool.false_and] at this⊢
   refine aa ?_
   rw [mL]
   simp only [gdF,STL,↓reduceIte,Int.reduceBEq,Int.reduceEq,GD,h1,h0,and_self,aG,bE g1,Option.getD_some,next i (by omega)]
   exact this
  ·have:=ih (i+1) (decide (FrR x)) g3
   rw [Bool.true_and,List.all_cons]
   refine aa ?_
   rw [mL]
   simp only [STL,↓reduceIte,Int.reduceBEq,Int.reduceEq,GD,h1,h0,and_self,aG,bE g1,k34,next i (by omega)]
   exact this
theorem B8(ep et:Bool)(point times:List Fr)(hp:point.length<=1000)(hl:times.length<=1000):∀(rest:List Fr) (i:Nat) (b:Bool),point.drop i=rest->
  Or jW [LN ep point,LN et times,r0,B b,I (i:Int)] [Blk.box [I 0,I 0]]=fl (if(b && rest.all (fun x=>decide (FrR x)) && times.all fun x=>decide (FrR x))=true then(0,0) else(5,0)):=by
 intro rest
 induction rest with
 | nil=>
  intro i b h
  have h1:¬(i:Int) < (point.length:Int):=by have:=ax h;omega
  have:=D4 et times hl times 0 b rfl
  rw [List.all_nil,Bool.and_true]
  refine aa ?_
  rw [qY]
  simp only [STL,↓reduceIte,Int.reduceBEq,Int.reduceEq,GD,h1,aG]
  exact this
 | cons x rest ih=>
  intro i b h
  obtain⟨g1,g2,g3⟩:=ar h
  have h1:(i:Int) < (point.length:Int):=by omega
  have h0: 0<=(i:Int):=by omega
  have k34:=d34 x
  cases b
  ·have:=ih (i+1) false g3
   rw [Bool.false_and,Bool.false_and] at this⊢
   refine aa ?_
   rw [qY]
   simp only [gdF,STL,↓reduceIte,Int.reduceBEq,Int.reduceEq,GD,h1,h0,and_self,aG,bE g1,Option.getD_some,next i (by omega)]
   exact this
  ·have:=ih (i+1) (decide (FrR x)) g3
   rw [Bool.true_and,List.all_cons]
   refine aa ?_
   rw [qY]
   simp only [STL,↓reduceIte,Int.reduceBEq,Int.reduceEq,GD,h1,h0,and_self,aG,bE g1,k34,next i (by omega)]
   exact this
theorem d10(rows:List R)(er eg ep et:Bool)(n:Int)(gl:List Int)(v:Fr)(point times:List Fr):
  Or (.call 10) [LR er rows,I n,lst eg gl,Av v,LN ep point,LN et times] []=fl (aK n rows gl v point times):=by
 have k20:=d20 rows er eg n gl
 have k34:=d34 v
 by_cases h1:(bI n rows gl).1=0
 ·have hb: 0<=n/\n<=12/\rows.length<=40:=by
   unfold bI at h1
   by_cases h2:(bM n rows).1=0
   ·unfold bM at h2
    split at h2
    ·simp at h2
    ·unfold fA at h2
     split at h2
     ·simp at h2
     ·omega
   ·rw [if_pos h2] at h1;exact absurd h1 h2
  by_cases h2:(point.length:Int)≠n\/times.length≠rows.length
  ·have ht:aK n rows gl v point times= (9,0):=by unfold aK;rw [if_neg (by omega),if_pos h2]
   have hbb:(if(point.length:Int)=n then !((times.length:Int)== (rows.length:Int)) else true)=true:=by
    by_cases h3:(point.length:Int)=n
    ·rw [if_pos h3]
     have:¬(times.length:Int)= (rows.length:Int):=by omega
     simpa using this
    ·rw [if_neg h3]
   have k21:=d21 9 0
   rw [ht]
   refine aa ?_
   rw [qZ]
   simp only [STL,↓reduceIte,Int.reduceBEq,Int.reduceEq,GD,k20,h1,aG,au,hbb,k21]
   try rfl
  ·have hbb:(if(point.length:Int)=n then !((times.length:Int)== (rows.length:Int)) else true)=false:=by
    rw [if_pos (by omega)]
    have:(times.length:Int)= (rows.length:Int):=by omega
    simpa using this
   have:=B8 ep et point times (by omega) (by omega) point 0 (decide (FrR v)) rfl
   have ht:aK n rows gl v point times=if(decide (FrR v) && (point.all fun x=>decide (FrR x)) && (times.all fun x=>decide (FrR x)))=true then(0,0) else(5,0):=by
    unfold aK;rw [if_neg (by omega),if_neg h2]
   rw [ht]
   refine aa ?_
   rw [qZ]
   simp only [STL,↓reduceIte,Int.reduceBEq,Int.reduceEq,GD,k20,h1,aG,au,hbb,k34]
   exact this
 ·have ht:aK n rows gl v point times=bI n rows gl:=by unfold aK;rw [if_pos h1]
  rw [ht]
  refine aa ?_
  rw [qZ]
  simp only [STL,↓reduceIte,Int.reduceBEq,Int.reduceEq,GD,k20,h1]
  try rfl
open Go Go.Aev Go.Aev.Gen Go.Aev.Wd Go.Aev.Tb
def cvI(n k:Nat)(r:R):Int:=if k < n then r.of.getD k 0 else r.tv
def cvS(n k:Nat):List R->List Fr->Rat
 | r::rs,t::ts=>frQ t * ((cvI n k r:Int):Rat)+cvS n k rs ts
 | _,_=>0
theorem tD{n k:Nat}(h:k < n):∀(rs:List R) (ts:List Fr),cvS n k rs ts=clQ rs (ts.map frQ) k
 | [],ts=>by cases ts <;> rfl
 | _::_,[]=>rfl
 | r::rs,t::ts=>by
  rw [cvS,tD h rs ts,List.map_cons,clQ]
  unfold cvI
  rw [if_pos h];grind
theorem su(n:Nat):∀(rs:List R) (ts:List Fr),cvS n n rs ts=toQ rs (ts.map frQ)
 | [],ts=>by cases ts <;> rfl
 | _::_,[]=>rfl
 | r::rs,t::ts=>by
  rw [cvS,su n rs ts,List.map_cons,toQ]
  unfold cvI
  rw [if_neg (by omega)];grind
theorem q1:Rat.divInt 0 1=0:=rfl
theorem AP(rows:List R)(er et:Bool)(n k:Nat)(times:List Fr)(hn:n<=12)(hk:k<=n)(hm:rows.length<=40)(ok:∀r∈rows,OkR n r)(htl:times.length=rows.length)(htx:∀x∈times,FrB x):
  ∀(rs:List R) (ts:List Fr) (i m:Nat) (acc:Rat) (s:Bool) (e:Bool) (D:List Int) (s':Bool) (e':Bool) (D':List Int),rows.drop i=rs->times.drop i=ts->(Rep acc.num s D/\Rep (acc.den:Int) s' D')->QB m acc->m+51 * rs.length<=6200->
  ∃y,Or fb [LR er rows,I (n:Int),LN et times,I (k:Int),r0,I (i:Int)] [Blk.box [B s,AV.t (T.lst 1 e (ac D)),B s',AV.t (T.lst 1 e' (ac D'))]]=some [y]/\WR (acc+cvS n k rs ts) y/\QB (m+51 * rs.length) (acc+cvS n k rs ts):=by
 intro rs
 induction rs with
 | nil=>
  intro ts i m acc s e D s' e' D' h ht hv hq hm'
  have h1:¬(i:Int) < (rows.length:Int):=by have:=ax h;omega
  have hc0:acc+cvS n k [] ts=acc:=by
   have:cvS n k [] ts=0:=by cases ts <;> rfl
   rw [this];grind
  rw [hc0]
  refine⟨_,aa ?_,wr (e:=e) (e':=e') hv.1 hv.2,hq.mono (by omega)⟩
  rw [wL]
  simp only [STL,↓reduceIte,Int.reduceBEq,Int.reduceEq,GD,h1,au]
 | cons r rs ih=>
  intro ts i m acc s e D s' e' D' h ht hv hq hm'
  obtain⟨g1,g2,g3⟩:=ar h
  cases ts with
  | nil=>have:=ax ht;omega
  | cons x ts=>
   obtain⟨t1,t2,t3⟩:=ar ht
   simp only [List.length_cons] at hm'⊢
   have h1:(i:Int) < (rows.length:Int):=by omega
   have h0: 0<=(i:Int):=by omega
   have h2:(i:Int) < (times.length:Int):=by omega
   have hk0: 0<=(k:Int):=by omega
   have okr:=ok r (List.mem_of_getElem? g1)
   have hxb:=htx x (List.mem_of_getElem? t1)
   unfold FrB at hxb
   have hcv: -1000000<=cvI n k r/\cvI n k r<=1000000:=by
    unfold cvI
    split
    ·by_cases hkl:k < r.of.length
     ·exact okr.of _ (by rw [List.getD_eq_getElem?_getD,List.getElem?_eq_getElem hkl];exact List.getElem_mem hkl)
     ·rw [List.getD_eq_getElem?_getD,List.getElem?_eq_none (by omega)];decide
    ·exact okr.tv
   obtain⟨a,a1,a2⟩:=g57 x.1 x.2 (by unfold Sm;omega) (by unfold Sm;omega) (by omega)
   obtain⟨b,b1,b2⟩:=g43 (cvI n k r) 1 (by unfold Sm;omega) (by unfold Sm;omega) (by omega)
   obtain⟨⟨s1,e1,D1,s2,e2,D2,k1,k2,k3⟩,kq⟩:=pO (m:=30) (k:=20) (p:=frQ x) (q:=Rat.divInt (cvI n k r) 1) a2 b2 (jr hxb.1 hxb.2) (QB.divInt (by omega) (by omega) (by omega)) (by omega)
   obtain⟨⟨u1,f1,E1,u2,f2,E2,j1,j2,j3⟩,jq⟩:=rS (m:=m) (k:=50) (wr (e:=e) (e':=e') hv.1 hv.2) (wr (e:=e1) (e':=e2) k2 k3) hq kq (by omega)
   have hdv1:Rat.divInt (cvI n k r) 1= ((cvI n k r:Int):Rat):=ir _
   obtain⟨y,y1,y2,y3⟩:=ih ts (i+1) (m+50+1) _ u1 f1 E1 u2 f2 E2 g3 t3 ⟨j2,j3⟩ jq (by omega)
   have he:acc+frQ x * Rat.divInt (cvI n k r) 1+cvS n k rs ts=acc+cvS n k (r::rs) (x::ts):=by
    rw [cvS,hdv1];grind
   rw [he] at y2 y3
   refine⟨y,aa ?_,y2,y3.mono (by omega)⟩
   rw [wL]
   by_cases hkn:k < n
   ·have hkn':(k:Int) < (n:Int):=by omega
    by_cases hkl:k < r.of.length
    ·have hkl':(k:Int) < (r.of.length:Int):=by omega
     have hgk:r.of[k]? =some (cvI n k r):=by unfold cvI;rw [if_pos hkn,List.getD_eq_getElem?_getD,List.getElem?_eq_getElem hkl];rfl
     simp only [STL,↓reduceIte,Int.reduceBEq,Int.reduceEq,GD,h1,h0,h2,hk0,hkn',hkl',and_self,au,aW g1,aE,b9 hgk,aG,bE t1,a1,b1,k1,j1,next i (by omega)]
     exact y1
    ·have hkl':¬(k:Int) < (r.of.length:Int):=by omega
     have hc0:cvI n k r=0:=by unfold cvI;rw [if_pos hkn,List.getD_eq_getElem?_getD,List.getElem?_eq_none (by omega)];rfl
     rw [hc0] at b1
     simp only [STL,↓reduceIte,Int.reduceBEq,Int.reduceEq,GD,h1,h0,h2,hk0,hkn',hkl',and_self,au,aW g1,aE,aG,bE t1,a1,b1,k1,j1,next i (by omega)]
     exact y1
   ·have hkn':¬(k:Int) < (n:Int):=by omega
    have hc0:cvI n k r=r.tv:=by unfold cvI;rw [if_neg hkn]
    rw [hc0] at b1
    simp only [STL,↓reduceIte,Int.reduceBEq,Int.reduceEq,GD,h1,h0,h2,hkn',and_self,au,aW g1,aG,bE t1,a1,b1,k1,j1,next i (by omega)]
    exact y1
theorem Cw(rows:List R)(er et:Bool)(n k:Nat)(times:List Fr)(hn:n<=12)(hk:k<=n)(hm:rows.length<=40)(ok:∀r∈rows,OkR n r)(htl:times.length=rows.length)(htx:∀x∈times,FrB x):
  ∀(rs:List R) (ts:List Fr) (i m:Nat) (acc:Rat) (v:T),rows.drop i=rs->times.drop i=ts->WR acc v->QB m acc->m+51 * rs.length<=6200->
  ∃y,Or fb [LR er rows,I (n:Int),LN et times,I (k:Int),AV.t v,I (i:Int)] []=some [y]/\WR (acc+cvS n k rs ts) y/\QB (m+51 * rs.length) (acc+cvS n k rs ts):=by
 intro rs
 induction rs with
 | nil=>
  intro ts i m acc v h ht hv hq hm'
  have h1:¬(i:Int) < (rows.length:Int):=by have:=ax h;omega
  have hc0:acc+cvS n k [] ts=acc:=by
   have:cvS n k [] ts=0:=by cases ts <;> rfl
   rw [this];grind
  rw [hc0]
  refine⟨v,aa ?_,hv,hq.mono (by omega)⟩
  rw [vo]
  simp only [STL,↓reduceIte,Int.reduceBEq,Int.reduceEq,GD,h1,au]
 | cons r rs ih=>
  intro ts i m acc v h ht hv hq hm'
  obtain⟨g1,g2,g3⟩:=ar h
  cases ts with
  | nil=>have:=ax ht;omega
  | cons x ts=>
   obtain⟨t1,t2,t3⟩:=ar ht
   simp only [List.length_cons] at hm'⊢
   have h1:(i:Int) < (rows.length:Int):=by omega
   have h0: 0<=(i:Int):=by omega
   have h2:(i:Int) < (times.length:Int):=by omega
   have hk0: 0<=(k:Int):=by omega
   have okr:=ok r (List.mem_of_getElem? g1)
   have hxb:=htx x (List.mem_of_getElem? t1)
   unfold FrB at hxb
   have hcv: -1000000<=cvI n k r/\cvI n k r<=1000000:=by
    unfold cvI
    split
    ·by_cases hkl:k < r.of.length
     ·exact okr.of _ (by rw [List.getD_eq_getElem?_getD,List.getElem?_eq_getElem hkl];exact List.getElem_mem hkl)
     ·rw [List.getD_eq_getElem?_getD,List.getElem?_eq_none (by omega)];decide
    ·exact okr.tv
   obtain⟨a,a1,a2⟩:=g57 x.1 x.2 (by unfold Sm;omega) (by unfold Sm;omega) (by omega)
   obtain⟨b,b1,b2⟩:=g43 (cvI n k r) 1 (by unfold Sm;omega) (by unfold Sm;omega) (by omega)
   obtain⟨⟨s1,e1,D1,s2,e2,D2,k1,k2,k3⟩,kq⟩:=pO (m:=30) (k:=20) (p:=frQ x) (q:=Rat.divInt (cvI n k r) 1) a2 b2 (jr hxb.1 hxb.2) (QB.divInt (by omega) (by omega) (by omega)) (by omega)
   obtain⟨⟨u1,f1,E1,u2,f2,E2,j1,j2,j3⟩,jq⟩:=rS (m:=m) (k:=50) hv (wr (e:=e1) (e':=e2) k2 k3) hq kq (by omega)
   have hdv1:Rat.divInt (cvI n k r) 1= ((cvI n k r:Int):Rat):=ir _
   obtain⟨y,y1,y2,y3⟩:=AP rows er et n k times hn hk hm ok htl htx rs ts (i+1) (m+50+1) _ u1 f1 E1 u2 f2 E2 g3 t3 ⟨j2,j3⟩ jq (by omega)
   have he:acc+frQ x * Rat.divInt (cvI n k r) 1+cvS n k rs ts=acc+cvS n k (r::rs) (x::ts):=by
    rw [cvS,hdv1];grind
   rw [he] at y2 y3
   refine⟨y,aa ?_,y2,y3.mono (by omega)⟩
   rw [vo]
   by_cases hkn:k < n
   ·have hkn':(k:Int) < (n:Int):=by omega
    by_cases hkl:k < r.of.length
    ·have hkl':(k:Int) < (r.of.length:Int):=by omega
     have hgk:r.of[k]? =some (cvI n k r):=by unfold cvI;rw [if_pos hkn,List.getD_eq_getElem?_getD,List.getElem?_eq_getElem hkl];rfl
     simp only [STL,↓reduceIte,Int.reduceBEq,Int.reduceEq,GD,h1,h0,h2,hk0,hkn',hkl',and_self,au,aW g1,aE,b9 hgk,aG,bE t1,a1,b1,k1,j1,next i (by omega)]
     exact y1
    ·have hkl':¬(k:Int) < (r.of.length:Int):=by omega
     have hc0:cvI n k r=0:=by unfold cvI;rw [if_pos hkn,List.getD_eq_getElem?_getD,List.getElem?_eq_none (by omega)];rfl
     rw [hc0] at b1
     simp only [STL,↓reduceIte,Int.reduceBEq,Int.reduceEq,GD,h1,h0,h2,hk0,hkn',hkl',and_self,au,aW g1,aE,aG,bE t1,a1,b1,k1,j1,next i (by omega)]
     exact y1
   ·have hkn':¬(k:Int) < (n:Int):=by omega
    have hc0:cvI n k r=r.tv:=by unfold cvI;rw [if_neg hkn]
    rw [hc0] at b1
    simp only [STL,↓reduceIte,Int.reduceBEq,Int.reduceEq,GD,h1,h0,h2,hkn',and_self,au,aW g1,aG,bE t1,a1,b1,k1,j1,next i (by omega)]
    exact y1
theorem d35(rows:List R)(er et:Bool)(n k:Nat)(times:List Fr)(hn:n<=12)(hk:k<=n)(hm:rows.length<=40)(ok:∀r∈rows,OkR n r)(htl:times.length=rows.length)(htx:∀x∈times,FrB x):
  ∃y,Or (.call 35) [LR er rows,I (n:Int),LN et times,I (k:Int)] []=some [y]/\WR (cvS n k rows times) y/\QB 2100 (cvS n k rows times):=by
 obtain⟨a,a1,a2⟩:=g43 0 1 (by unfold Sm;omega) (by unfold Sm;omega) (by omega)
 rw [q1] at a2
 obtain⟨y,y1,y2,y3⟩:=Cw rows er et n k times hn hk hm ok htl htx rows times 0 0 0 a rfl rfl a2 (kr 0) (by omega)
 rw [Rat.zero_add] at y2 y3
 refine⟨y,aa ?_,y2,y3.mono (by omega)⟩
 rw [Bl]
 simp only [STL,↓reduceIte,Int.reduceBEq,Int.reduceEq,GD,a1]
 exact y1
theorem ud(r:R)(l:List Fr)(hk:r.kd=1\/r.kd=2\/r.kd=3):gv (toC r) l=hdB r (an r.of (l.map frQ)):=by
 have hs:∀(of:List Int) (l:List Fr) (acc:Rat),bA of l acc=acc+an of (l.map frQ):=by
  intro of
  induction of with
  | nil=>intro l acc;rw [mD,bA];grind
  | cons c of ih=>
   intro l acc
   cases l with
   | nil=>show acc=acc+0;grind
   | cons x l=>
    have h1:Rat.divInt c 1= (c:Rat):=ir _
    rw [bA,ih l,h1,List.map_cons,an];grind
 unfold gv hdB
 have h0:=hs r.of l 0
 rw [Rat.zero_add] at h0
 show decide ((bA r.of l 0 < (r.tv:Rat)/\r.kd≠3)\/(bA r.of l 0= (r.tv:Rat)/\r.kd≠2))=_
 rw [h0]
 generalize an r.of (l.map frQ)=q
 rcases hk with e | e | e
 ·rw [if_pos e]
  refine decide_eq_decide.2 ?_
  rw [e]
  constructor
  ·rintro(⟨h,_⟩ | ⟨h,_⟩) <;> grind
  ·intro h
   by_cases h':q= (r.tv:Rat)
   ·exact .inr ⟨h',by decide⟩
   ·exact .inl ⟨by grind,by decide⟩
 ·rw [if_neg (by omega),if_pos e]
  refine decide_eq_decide.2 ?_
  rw [e]
  constructor
  ·rintro(⟨h,_⟩ | ⟨_,h⟩)
   ·exact h
   ·exact absurd rfl h
  ·intro h;exact .inl ⟨h,by decide⟩
 ·rw [if_neg (by omega),if_neg (by omega)]
  refine decide_eq_decide.2 ?_
  rw [e]
  constructor
  ·rintro(⟨_,h⟩ | ⟨h,_⟩)
   ·exact absurd rfl h
   ·exact h
  ·intro h;exact .inr ⟨h,by decide⟩
theorem pV:∀(of:List Int) (l:List Fr),bA of l 0=an of (l.map frQ):=by
 have hs:∀(of:List Int) (l:List Fr) (acc:Rat),bA of l acc=acc+an of (l.map frQ):=by
  intro of
  induction of with
  | nil=>intro l acc;rw [mD,bA];grind
  | cons c of ih=>
   intro l acc
   cases l with
   | nil=>show acc=acc+0;grind
   | cons x l=>
    have h1:Rat.divInt c 1= (c:Rat):=ir _
    rw [bA,ih l,h1,List.map_cons,an];grind
 intro of l
 have:=hs of l 0
 rwa [Rat.zero_add] at this
section
variable (rows:List R) (er eg ep et:Bool) (n:Nat) (gl:List Int) (v:Fr) (point times:List Fr)
theorem Aj(hn:n<=12)(hm:rows.length<=40)(ok:∀r∈rows,OkR n r)(hgl:gl.length<=n)(hgb:∀c∈gl, -1000000<=c/\c<=1000000)(htl:times.length=rows.length)(htx:∀x∈times,FrR x){z:T}(hz:WR (frQ v) z)(hv:FrR v):
  ∀(d k:Nat),d+k=n->Or kG [LR er rows,I (n:Int),lst eg gl,LN et times,AV.t z,I (k:Int)] []=
   some [tb (((List.range' k d).all fun j=>decide (clQ rows (times.map frQ) j= ((gl.getD j 0:Int):Rat))) && decide (toQ rows (times.map frQ)=frQ v))]:=by
 intro d
 induction d with
 | zero=>
  intro k hd
  have h1:¬(k:Int) < (n:Int):=by omega
  obtain⟨y,y1,y2,y3⟩:=d35 rows er et n n times hn (Nat.le_refl _) hm ok htl (fun x hx=>(htx x hx).b)
  have k17:=kB (m:=2100) (k:=30) y2 hz y3 (jr hv.b.1 hv.b.2) (by omega)
  rw [su] at k17
  have b3:(eA (toQ rows (times.map frQ)) (frQ v)==0)=decide (toQ rows (times.map frQ)=frQ v):=by rw [c8];exact decide_eq_decide.2 (gu _ _)
  refine aa ?_
  rw [kH]
  simp only [STL,↓reduceIte,Int.reduceBEq,Int.reduceEq,GD,h1,y1,k17,b3,List.range'_zero,List.all_nil]
 | succ d ih=>
  intro k hd
  have h1:(k:Int) < (n:Int):=by omega
  have h0: 0<=(k:Int):=by omega
  obtain⟨y,y1,y2,y3⟩:=d35 rows er et n k times hn (by omega) hm ok htl (fun x hx=>(htx x hx).b)
  rw [tD (by omega)] at y2 y3
  have ih':=ih (k+1) (by omega)
  rw [List.range'_succ,List.all_cons]
  by_cases hkg:k < gl.length
  ·have hkg':(k:Int) < (gl.length:Int):=by omega
   have hgk:gl[k]? =some (gl.getD k 0):=by rw [List.getD_eq_getElem?_getD,List.getElem?_eq_getElem hkg];rfl
   have hcb:=hgb _ (List.mem_of_getElem? hgk)
   obtain⟨b,b1,b2⟩:=g43 (gl.getD k 0) 1 (by unfold Sm;omega) (by unfold Sm;omega) (by omega)
   have hdv1:Rat.divInt (gl.getD k 0) 1= ((gl.getD k 0:Int):Rat):=ir _
   have qb:QB 20 (Rat.divInt (gl.getD k 0) 1):=QB.divInt (by omega) (by omega) (by omega)
   have k17:=kB (m:=2100) (k:=20) y2 b2 y3 qb (by omega)
   rw [hdv1] at k17
   by_cases he:clQ rows (times.map frQ) k= ((gl.getD k 0:Int):Rat)
   ·have hc0:=(gu _ _).2 he
    rw [decide_eq_true he,Bool.true_and]
    refine aa ?_
    rw [kH]
    simp only [STL,↓reduceIte,Int.reduceBEq,Int.reduceEq,GD,h1,h0,hkg',and_self,aE,b9 hgk,y1,b1,k17,hc0,next k (by omega)]
    exact ih'
   ·have hc0:¬eA (clQ rows (times.map frQ) k) ((gl.getD k 0:Int):Rat)=0:=fun h=>he ((gu _ _).1 h)
    rw [decide_eq_false he,Bool.false_and,Bool.false_and]
    refine aa ?_
    rw [kH]
    simp only [STL,↓reduceIte,Int.reduceBEq,Int.reduceEq,GD,h1,h0,hkg',and_self,aE,b9 hgk,y1,b1,k17,hc0]
  ·have hkg':¬(k:Int) < (gl.length:Int):=by omega
   have hgk:gl.getD k 0=0:=by rw [List.getD_eq_getElem?_getD,List.getElem?_eq_none (by omega)];rfl
   obtain⟨b,b1,b2⟩:=g43 0 1 (by unfold Sm;omega) (by unfold Sm;omega) (by omega)
   have hdv1:Rat.divInt 0 1= ((0:Int):Rat):=ir _
   have qb:QB 20 (Rat.divInt 0 1):=QB.divInt (by omega) (by decide) (by decide)
   have k17:=kB (m:=2100) (k:=20) y2 b2 y3 qb (by omega)
   rw [hdv1] at k17
   rw [hgk]
   by_cases he:clQ rows (times.map frQ) k= ((0:Int):Rat)
   ·have hc0:=(gu _ _).2 he
    rw [decide_eq_true he,Bool.true_and]
    refine aa ?_
    rw [kH]
    simp only [STL,↓reduceIte,Int.reduceBEq,Int.reduceEq,GD,h1,h0,hkg',and_self,aE,y1,b1,k17,hc0,next k (by omega)]
    exact ih'
   ·have hc0:¬eA (clQ rows (times.map frQ) k) ((0:Int):Rat)=0:=fun h=>he ((gu _ _).1 h)
    rw [decide_eq_false he,Bool.false_and,Bool.false_and]
    refine aa ?_
    rw [kH]
    simp only [STL,↓reduceIte,Int.reduceBEq,Int.reduceEq,GD,h1,h0,hkg',and_self,aE,y1,b1,k17,hc0]
theorem C5(hn:n<=12)(hm:rows.length<=40)(ok:∀r∈rows,OkR n r)(hgl:gl.length<=n)(hgb:∀c∈gl, -1000000<=c/\c<=1000000)(htl:times.length=rows.length)(htx:∀x∈times,FrR x){z:T}(hz:WR (frQ v) z)(hv:FrR v):
  ∀(rs:List R) (ts:List Fr) (i:Nat),rows.drop i=rs->times.drop i=ts->
  Or nL [LR er rows,I (n:Int),lst eg gl,LN et times,AV.t z,I (i:Int)] []=
   some [tb (ngB rs ts && ((List.range n).all fun j=>decide (clQ rows (times.map frQ) j= ((gl.getD j 0:Int):Rat))) && decide (toQ rows (times.map frQ)=frQ v))]:=by
 intro rs
 induction rs with
 | nil=>
  intro ts i h ht
  have h1:¬(i:Int) < (rows.length:Int):=by have:=ax h;omega
  have hng:ngB [] ts=true:=by cases ts <;> rfl
  have:=Aj rows er eg et n gl v times hn hm ok hgl hgb htl htx hz hv n 0 (by omega)
  rw [<-List.range_eq_range'] at this
  rw [hng,Bool.true_and]
  refine aa ?_
  rw [og]
  simp only [STL,↓reduceIte,Int.reduceBEq,Int.reduceEq,GD,h1,au]
  exact this
 | cons r rs ih=>
  intro ts i h ht
  obtain⟨g1,g2,g3⟩:=ar h
  cases ts with
  | nil=>have:=ax ht;omega
  | cons t ts=>
   obtain⟨t1,t2,t3⟩:=ar ht
   have h1:(i:Int) < (rows.length:Int):=by omega
   have h0: 0<=(i:Int):=by omega
   have h2:(i:Int) < (times.length:Int):=by omega
   have ih':=ih ts (i+1) g3 t3
   have hng:ngB (r::rs) (t::ts)= (!(decide (r.kd=1) && decide (t.1 < 0)) && ngB rs ts):=rfl
   rw [hng]
   by_cases hk:r.kd=1
   ·have hkb:(r.kd==1)=true:=by simpa using hk
    by_cases hneg:t.1 < 0
    ·refine aa ?_
     rw [og]
     simp only [STL,↓reduceIte,Int.reduceBEq,Int.reduceEq,GD,h1,h0,h2,and_self,au,aW g1,hkb,aG,bE t1,hneg,decide_true]
     simp [hk,hneg]
    ·have e:(!(decide (r.kd=1) && decide (t.1 < 0)) && ngB rs ts)=ngB rs ts:=by simp [hk,hneg]
     rw [e]
     refine aa ?_
     rw [og]
     simp only [STL,↓reduceIte,Int.reduceBEq,Int.reduceEq,GD,h1,h0,h2,and_self,au,aW g1,hkb,aG,bE t1,hneg,decide_false,next i (by omega)]
     split
     ·exact ih'
     ·exact ih'
   ·have hkb:(r.kd==1)=false:=by simpa using hk
    have e:(!(decide (r.kd=1) && decide (t.1 < 0)) && ngB rs ts)=ngB rs ts:=by simp [hk]
    rw [e]
    refine aa ?_
    rw [og]
    simp only [STL,↓reduceIte,Int.reduceBEq,Int.reduceEq,GD,h1,h0,h2,and_self,au,aW g1,hkb,hk,aG,bE t1,next i (by omega)]
    exact ih'
theorem d11(hn:n<=12)(hm:rows.length<=40)(ok:∀r∈rows,OkR n r)(hgl:gl.length<=n)(hgb:∀c∈gl, -1000000<=c/\c<=1000000)(hp:point.length=n)(hpx:∀x∈point,FrR x)(htl:times.length=rows.length)(htx:∀x∈times,FrR x)(hv:FrR v):
  Or (.call 11) [LR er rows,I (n:Int),lst eg gl,Av v,LN ep point,LN et times] []=some [tb (dJ n rows gl v point times)]:=by
 have hvb:=hv.b
 unfold FrB at hvb
 obtain⟨z,z1,z2⟩:=g57 v.1 v.2 (by unfold Sm;omega) (by unfold Sm;omega) (by omega)
 have hz:WR (frQ v) z:=z2
 have k15:=zd er rows ep point (by omega) (fun r hr=>by rw [hp];exact ok r hr) hpx hm
 have hall:(rows.all fun r=>gv (toC r) point)=rows.all fun r=>hdB r (an r.of (point.map frQ)):=by
  rw [Bool.eq_iff_iff,List.all_eq_true,List.all_eq_true]
  exact forall_congr' fun r=>⟨fun h hr=>by rw [<-ud r point (ok r hr).kd];exact h hr,fun h hr=>by rw [ud r point (ok r hr).kd];exact h hr⟩
 rw [hall] at k15
 obtain⟨y,y1,y2,y3⟩:=s41 eg ep gl point hgb (fun x hx=>(hpx x hx).b) (by omega) (by omega)
 rw [pV] at y2 y3
 have k17:=kB (m:=51 * gl.length) (k:=30) y2 hz y3 (jr hv.b.1 hv.b.2) (by omega)
 have hrest:=C5 rows er eg et n gl v times hn hm ok hgl hgb htl htx hz hv rows times 0 rfl rfl
 have hsays:dJ n rows gl v point times= ((rows.all fun r=>hdB r (an r.of (point.map frQ))) && (decide (an gl (point.map frQ)=frQ v) && (ngB rows times && ((List.range n).all fun k=>decide (clQ rows (times.map frQ) k= ((gl.getD k 0:Int):Rat))) && decide (toQ rows (times.map frQ)=frQ v)))):=by
  unfold dJ;simp only [Bool.and_assoc]
 rw [hsays]
 cases hA:rows.all fun r=>hdB r (an r.of (point.map frQ))
 ·rw [hA] at k15
  refine aa ?_
  rw [qD]
  simp only [gdF,STL,↓reduceIte,Int.reduceBEq,Int.reduceEq,GD,z1,k15,Bool.not_false,Bool.not_true]
 ·rw [hA] at k15
  by_cases hB:an gl (point.map frQ)=frQ v
  ·have hc0:=(gu _ _).2 hB
   rw [decide_eq_true hB,Bool.true_and,Bool.true_and]
   refine aa ?_
   rw [qD]
   simp only [STL,↓reduceIte,Int.reduceBEq,Int.reduceEq,GD,z1,k15,y1,k17,hc0,Bool.not_false,Bool.not_true]
   exact hrest
  ·have hc0:¬eA (an gl (point.map frQ)) (frQ v)=0:=fun h=>hB ((gu _ _).1 h)
   have hcb:(!(eA (an gl (point.map frQ)) (frQ v)==0))=true:=by simpa using hc0
   rw [decide_eq_false hB,Bool.true_and,Bool.false_and]
   refine aa ?_
   rw [qD]
   simp only [STL,↓reduceIte,Int.reduceBEq,Int.reduceEq,GD,z1,k15,y1,k17,hc0,hcb,Bool.not_false,Bool.not_true]
theorem tn(q:Rat):(q.num.sign > 0)↔0 < q:=by
 have h1:=lR q
 have h2:=kX q
 rcases ms q with e | e | e
 ·rw [e] at h1 h2⊢
  refine⟨fun _=> ?_,fun _=>by decide⟩
  have hnn:¬q < 0:=fun h=>absurd (h1.2 h) (by decide)
  have hne:q≠0:=fun h=>absurd (h2.2 h) (by decide)
  grind
 ·rw [e] at h1⊢
  refine⟨fun h=>absurd h (by decide),fun h=> ?_⟩
  have:=h1.1 (by decide)
  exact absurd h (by grind)
 ·rw [e] at h2⊢
  refine⟨fun h=>absurd h (by decide),fun h=> ?_⟩
  have:=h2.1 rfl
  rw [this] at h;exact absurd h (by grind)
theorem zY(hn:n<=12)(hm:rows.length<=40)(ok:∀r∈rows,OkR n r)(hk2:∀r∈rows,r.kd≠2)(hgl:gl.length<=n)(hgb:∀c∈gl, -1000000<=c/\c<=1000000)(hp:point.length=n)(hpx:∀x∈point,FrR x):
  ∀(rs:List R) (i:Nat),rows.drop i=rs->
  Or nZ [LR er rows,lst eg gl,LN ep point,I (i:Int)] []=some [tb (((rs.map z0R).all fun r=>hdB r (an r.of (point.map frQ))) && decide (0 < an gl (point.map frQ)))]:=by
 intro rs
 induction rs with
 | nil=>
  intro i h
  have h1:¬(i:Int) < (rows.length:Int):=by have:=ax h;omega
  obtain⟨y,y1,y2,y3⟩:=s41 eg ep gl point hgb (fun x hx=>(hpx x hx).b) (by omega) (by omega)
  rw [pV] at y2
  have k37:=g60 y2
  have hb:decide ((an gl (point.map frQ)).num.sign > 0)=decide (0 < an gl (point.map frQ)):=decide_eq_decide.2 (tn _)
  refine aa ?_
  rw [kg]
  simp only [STL,↓reduceIte,Int.reduceBEq,Int.reduceEq,GD,h1,au,y1,k37,hb,List.map_nil,List.all_nil]
 | cons r rs ih=>
  intro i h
  obtain⟨g1,g2,g3⟩:=ar h
  have h1:(i:Int) < (rows.length:Int):=by omega
  have h0: 0<=(i:Int):=by omega
  have hrm:=List.mem_of_getElem? g1
  have okr:=ok r hrm
  have hlen:=okr.len
  obtain⟨y,y1,y2,y3⟩:=s41 r.e ep r.of point okr.of (fun x hx=>(hpx x hx).b) (by omega) (by omega)
  rw [pV] at y2
  have k37:=g60 y2
  have ih':=ih (i+1) g3
  have hp1:=tn (an r.of (point.map frQ))
  have hn1:=lR (an r.of (point.map frQ))
  have hhd:hdB (z0R r) (an (z0R r).of (point.map frQ))= !(decide ((an r.of (point.map frQ)).num.sign > 0) || (decide ((an r.of (point.map frQ)).num.sign < 0) && decide (r.kd=3))):=by
   show(if r.kd=1 then decide (an r.of (point.map frQ)<=((0:Int):Rat)) else if r.kd=2 then decide (an r.of (point.map frQ) < ((0:Int):Rat)) else decide (an r.of (point.map frQ)= ((0:Int):Rat)))=_
   have hz:((0:Int):Rat)=0:=rfl
   rw [hz]
   generalize an r.of (point.map frQ)=q at hp1 hn1
   have e1:decide (q.num.sign > 0)=decide (0 < q):=decide_eq_decide.2 hp1
   have e2:decide (q.num.sign < 0)=decide (q < 0):=decide_eq_decide.2 hn1
   rw [e1,e2]
   rcases okr.kd with e | e | e
   ·rw [if_pos e,e]
    by_cases a: 0 < q
    ·have:¬q<=0:=by grind
     simp [a,this]
    ·have:q<=0:=by grind
     simp [a,this]
   ·exact absurd e (hk2 r hrm)
   ·rw [if_neg (by omega),if_neg (by omega),e]
    by_cases a: 0 < q
    ·have:¬q=0:=by grind
     simp [a,this]
    ·by_cases b:q < 0
     ·have:¬q=0:=by grind
      simp [b,this]
     ·have:q=0:=by grind
      simp [this]
  rw [List.map_cons,List.all_cons,hhd]
  generalize (an r.of (point.map frQ)).num.sign=s at k37
  by_cases a:s > 0
  ·refine aa ?_
   rw [kg]
   simp only [gdF,STL,↓reduceIte,Int.reduceBEq,Int.reduceEq,GD,h1,h0,and_self,au,aW g1,y1,k37,a,decide_true]
   simp [a]
  ·by_cases b:s < 0
   ·by_cases c:r.kd=3
    ·have hcb:(r.kd==3)=true:=by simpa using c
     refine aa ?_
     rw [kg]
     simp only [STL,↓reduceIte,Int.reduceBEq,Int.reduceEq,GD,h1,h0,and_self,au,aW g1,y1,k37,a,b,hcb,decide_true,decide_false]
     simp [a,b,c]
    ·have hcb:(r.kd==3)=false:=by simpa using c
     have e:(!(decide (s > 0) || (decide (s < 0) && decide (r.kd=3))))=true:=by simp [a,c]
     rw [e,Bool.true_and]
     refine aa ?_
     rw [kg]
     simp only [STL,↓reduceIte,Int.reduceBEq,Int.reduceEq,GD,h1,h0,and_self,au,aW g1,y1,k37,a,b,hcb,decide_true,decide_false,next i (by omega)]
     exact ih'
   ·have e:(!(decide (s > 0) || (decide (s < 0) && decide (r.kd=3))))=true:=by simp [a,b]
    rw [e,Bool.true_and]
    refine aa ?_
    rw [kg]
    simp only [gdF,STL,↓reduceIte,Int.reduceBEq,Int.reduceEq,GD,h1,h0,and_self,au,aW g1,y1,k37,a,b,decide_false,Option.getD_some,next i (by omega)]
    exact ih'
theorem d12(hn:n<=12)(hm:rows.length<=40)(ok:∀r∈rows,OkR n r)(hk2:∀r∈rows,r.kd≠2)(hgl:gl.length<=n)(hgb:∀c∈gl, -1000000<=c/\c<=1000000)(hp:point.length=n)(hpx:∀x∈point,FrR x):
  Or (.call 12) [LR er rows,lst eg gl,LN ep point] []=some [tb (eF rows gl point)]:=by
 have:=zY rows er eg ep n gl point hn hm ok hk2 hgl hgb hp hpx rows 0 rfl
 refine aa ?_
 rw [DD]
 exact this
end
end Go.Aev.Wd.Lg
