import Derived.Test.YticjdhgokemdlaaGreatMostTakesQ20
import Derived.Test.YticjdhgokemdlaaGreatMostTakesQ19
import Derived.Test.YticjdhgokemdlaaGreatMostTakesQ18
import Derived.Test.YticjdhgokemdlaaGreatMostTakesQ5
set_option linter.unusedSimpArgs false
set_option linter.unusedVariables false
namespace Go.Aev.Wd.Lg
open Go Go.Aev Go.Aev.Gen Go.Aev.Wd Go.Aev.Tb
def ez(m:Nat):List Fr:=List.replicate m (0,1)
theorem BH(m:Nat):ch (ez m)++ [[T.int IntKind.i64 (0:Int),T.int IntKind.i64 (1:Int)]]=ch (ez (m+1)):=by
 unfold ez
 rw [List.replicate_succ']
 simp [ch]
theorem DA(m:Nat):((ez m).all fun x=>decide (FrR x))=true:=List.all_eq_true.2 fun x hx=>by
 rw [List.eq_of_mem_replicate hx]
 decide
theorem sw(n:Int)(rows:List R)(gl:List Int)(p:List Fr):aK n rows gl (0,1) p (ez rows.length)=aX n rows gl p:=by
 have h1:decide (FrR (0,1))=true:=by decide
 have h2:(ez rows.length).length=rows.length:=by simp [ez]
 unfold aK aX
 rw [DA,h1,h2]
 simp only [Bool.true_and,Bool.and_true,ne_eq,not_true_eq_false,or_false]
theorem Ej(i:Nat)(h:i<=140737488355328):IntKind.i64.wrap ((i:Int)+1)= ((i+1:Nat):Int):=by rw [Go.Aev.wr (by omega)];omega
theorem zP{k:Nat}(h:k * 16<=140737488355328):aA 16 k=some ():=by unfold aA;rw [if_pos (.inr ⟨by decide,h⟩)]
theorem nW{n:Int}{rows:List R}{gl:List Int}{p:List Fr}(h:(aX n rows gl p).1=0):aX n rows gl p= (0,0):=by
 rw [<-sw] at h⊢
 exact qq h
set_option maxRecDepth 100000 in
theorem l3n(rows:List R)(er eg ep et:Bool)(n:Int)(gl:List Int)(v:Fr)(p t:List Fr)(hr:∀r∈rows,r.e=true->r.of= [])(hl:rows.length * 40<=140737488355328):∀(d i:Nat),i+d=rows.length->
  Or oQ [LR er rows,I n,lst eg gl,LN ep p,LN et t,r0,B (if(aK n rows gl v p t).1=0 then dJ n.toNat rows gl v p t else false),AV.ref (Id.c 1) 0,B (if(aX n rows gl p).1=0 then eF rows gl p else false),AV.ref (Id.c 2) 0,AV.ref (Id.c 3) 0,AV.own (Id.c 4),I (i:Int)]
   [Blk.box [I v.1,I v.2],Blk.box [I (aK n rows gl v p t).1,I (aK n rows gl v p t).2],Blk.box [I (aX n rows gl p).1,I (aX n rows gl p).2],Blk.box [I (aK n rows gl v p t).1,I (aK n rows gl v p t).2],Blk.sl false 2 (decide (i=0)) (ch (ez i))]=some [tb true]:=by
 intro d
 induction d with
 | zero=>
  intro i hi
  have hi':i=rows.length:=by omega
  subst hi'
  have h1:¬((rows.length:Nat):Int) < (rows.length:Int):=by omega
  have k10:=d10 rows er eg ep (decide (rows.length=0)) n gl (0,1) p (ez rows.length)
  rw [sw] at k10
  refine aa ?_
  rw [xK]
  by_cases hF:(aK n rows gl v p t).1=0
  ·obtain⟨c1,c2,c3,c4,c5,c6⟩:=Bg hr hF
   obtain⟨_,a1,a2,a3,a4,a5,a6,a7⟩:=mV hr c1
   have k11:=d11 (er:=er) (eg:=eg) (ep:=ep) (et:=et) (n:=n.toNat) (rows:=rows) (gl:=gl) (v:=v) (point:=p) (times:=t) (by omega) a3 a4 (by omega) a7 (by omega) c5 c3 c6 c4
   rw [show((n.toNat:Nat):Int)=n by omega] at k11
   have k12:=d12 (n:=n.toNat) rows er eg ep gl p (by omega) a3 a4 a5 (by omega) a7 (by omega) c5
   have hR:(aX n rows gl p).1=0:=by
    unfold aX
    rw [if_neg (by omega),if_neg (by omega),if_pos (List.all_eq_true.2 fun x hx=>decide_eq_true (c5 x hx))]
   rw [nW hR] at k10
   rw [qq hF,nW hR]
   simp only [if_true]
   generalize dJ n.toNat rows gl v p t=s at k11⊢
   generalize eF rows gl p=s2 at k12⊢
   cases s <;> cases s2 <;> simp only [STL,↓reduceIte,Int.reduceBEq,Int.reduceEq,GD,h1,au,k10,k11,k12,beq_self_eq_true]
  ·have hFb:((aK n rows gl v p t).1==0)=false:=by simpa using hF
   by_cases hR:(aX n rows gl p).1=0
   ·have hR0:=nW hR
    have hc:(bI n rows gl).1=0:=by
     unfold aX at hR
     split at hR
     ·rename_i h;exact absurd hR h
     ·rename_i h;omega
    have hp:(p.length:Int)=n/\∀x∈p,FrR x:=by
     unfold aX at hR
     rw [if_neg (by omega)] at hR
     split at hR
     ·simp at hR
     ·rename_i h
      split at hR
      ·rename_i h2
       exact⟨by omega,fun x hx=>of_decide_eq_true (List.all_eq_true.1 h2 x hx)⟩
      ·simp at hR
    obtain⟨_,a1,a2,a3,a4,a5,a6,a7⟩:=mV hr hc
    have k12:=d12 (n:=n.toNat) rows er eg ep gl p (by omega) a3 a4 a5 (by omega) a7 (by omega) hp.2
    rw [hR0] at k10⊢
    rw [if_neg hF]
    simp only [if_true]
    generalize eF rows gl p=s2 at k12⊢
    cases s2 <;> simp only [gdF,STL,↓reduceIte,Int.reduceBEq,Int.reduceEq,GD,h1,au,k10,k12,hF,hFb,beq_self_eq_true]
   ·have hRb:((aX n rows gl p).1==0)=false:=by simpa using hR
    rw [if_neg hF,if_neg hR]
    simp only [gdF,STL,↓reduceIte,Int.reduceBEq,Int.reduceEq,GD,h1,au,k10,hF,hFb,hR,hRb,beq_self_eq_true]
 | succ d ih=>
  intro i hi
  have h1:(i:Int) < (rows.length:Int):=by omega
  have:=ih (i+1) (by omega)
  have hb:(decide (i=0) && false)=decide (i+1=0):=by simp
  have s1:aA 16 ((ch (ez i)).length+1)=some ():=zP (by rw [aG];simp [ez];omega)
  refine aa ?_
  rw [xK]
  simp only [STL,↓reduceIte,Int.reduceBEq,Int.reduceEq,GD,h1,au,s1,hb,BH,Ej i (by omega)]
  exact this
set_option maxRecDepth 100000 in
theorem AB(rows:List R)(er eg ep et:Bool)(n:Int)(gl:List Int)(v:Fr)(p t:List Fr)(hr:∀r∈rows,r.e=true->r.of= [])(hl:rows.length * 40<=140737488355328):
  Or (.call 3) [LR er rows,I n,lst eg gl,Av v,LN ep p,LN et t] []=some [tb true]:=by
 have k8:=u8 rows er eg ep et n gl v p t hr
 have k9:=u9 rows er eg ep n gl p hr
 have k10:=d10 rows er eg ep et n gl v p t
 have:=l3n rows er eg ep et n gl v p t hr hl rows.length 0 (by omega)
 have e8:(if(aK n rows gl v p t).1=0 then [tb (dJ n.toNat rows gl v p t),ti 0,ti 0] else [tb false,ti (aK n rows gl v p t).1,ti (aK n rows gl v p t).2])=
   [tb (if(aK n rows gl v p t).1=0 then dJ n.toNat rows gl v p t else false),ti (aK n rows gl v p t).1,ti (aK n rows gl v p t).2]:=by
  by_cases h:(aK n rows gl v p t).1=0
  ·rw [if_pos h,if_pos h,qq h]
  ·rw [if_neg h,if_neg h]
 have e9:(if(aX n rows gl p).1=0 then [tb (eF rows gl p),ti 0,ti 0] else [tb false,ti (aX n rows gl p).1,ti (aX n rows gl p).2])=
   [tb (if(aX n rows gl p).1=0 then eF rows gl p else false),ti (aX n rows gl p).1,ti (aX n rows gl p).2]:=by
  by_cases h:(aX n rows gl p).1=0
  ·rw [if_pos h,if_pos h,nW h]
  ·rw [if_neg h,if_neg h]
 rw [e8] at k8
 rw [e9] at k9
 refine aa ?_
 rw [eq3]
 simp only [STL,↓reduceIte,Int.reduceBEq,Int.reduceEq,GD,u7,k8,k9,k10]
 exact this
open Go Go.Aev Go.Aev.Gen Go.Aev.Wd Go.Proofs
set_option maxRecDepth 1000000 in
theorem iu{n:Nat}{ts:List T}(h:Wt PROG (n+1) 3 ts):∃m:Int,ts= [ti m]:=by
 have hu:PROG.underlying 3=some (.int .i64):=Tryz.underlying3
 have h3:=@B4 PROG n 3 ts .i64 hu h
 obtain⟨m,h2,_⟩:=h3
 exact⟨m,h2⟩
theorem vg:PROG.cellsOf 3=1:=by kernel_rfl
theorem CK:PROG.cellsOf 46=3:=by kernel_rfl
theorem C2:PROG.bytesOf 46=40:=by kernel_rfl
theorem zQ:PROG.cellsOf 25=2:=by kernel_rfl
set_option maxRecDepth 1000000 in
theorem z5{n:Nat}{ts:List T}(h:Wt PROG (n+3) 46 ts):∃j:{r:R // r.e=true->r.of= []},ts=eR j.1:=by
 have hu:=(Tryz.underlying46:PROG.underlying 46=_)
 have h1:=sL hu h
 obtain⟨a,b,rfl,g1,c,d,rfl,g2,e,f,rfl,g3,rfl⟩:=h1
 have hu2:=(Tryz.underlying23:PROG.underlying 23=_)
 obtain⟨b,l,h2,h4,_⟩:=pL (fun z:Int=> [ti z]) hu2 g1 (fun cs hc=>iu hc)
 rw [vg] at h2
 subst h2
 obtain⟨y,rfl⟩:=iu g2
 obtain⟨z,rfl⟩:=iu g3
 exact⟨⟨⟨b,l,y,z⟩,h4⟩,rfl⟩
set_option maxRecDepth 1000000 in
theorem u4{n:Nat}{ts:List T}(h:Wt PROG (n+2) 25 ts):∃x:Fr,ts= [ti x.1,ti x.2]:=by
 have hu:=(Tryz.underlying25:PROG.underlying 25=_)
 have h1:=sL hu h
 obtain⟨a,b,rfl,g1,c,d,rfl,g2,rfl⟩:=h1
 obtain⟨y,rfl⟩:=iu g1
 obtain⟨z,rfl⟩:=iu g2
 exact⟨(y,z),rfl⟩
set_option maxRecDepth 1000000 in
theorem zi{n:Nat}{a:AV}(h:(al PROG 22=true/\∃l,Wt PROG (n+4) 22 l/\a= .agg (l.map .t))\/(al PROG 22=false/\∃x,Wt PROG (n+4) 22 [x]/\a= .t x)):∃e l,a=LR e l/\(∀r∈l,r.e=true->r.of= [])/\l.length * 40<=reachBytes:=by
 obtain⟨x,h1,rfl⟩:=nT h (by kernel_rfl)
 have hu:=(Tryz.underlying22:PROG.underlying 22=_)
 obtain⟨b,l,h2,_,_,h5⟩:=yk (fun j:{r:R // r.e=true->r.of= []} =>eR j.1) hu h1 (fun cs hc=>z5 hc)
 rw [CK] at h2
 rw [C2] at h5
 simp only [List.cons.injEq,and_true] at h2
 subst h2
 refine⟨b,l.map (·.1), ?_,fun r hr=> ?_,by simpa using h5⟩
 ·simp only [LR,eRs,List.map_map];rfl
 ·obtain⟨j,_,rfl⟩:=List.mem_map.1 hr
  exact j.2
set_option maxRecDepth 1000000 in
theorem BV{n:Nat}{a:AV}(h:(al PROG 23=true/\∃l,Wt PROG (n+2) 23 l/\a= .agg (l.map .t))\/(al PROG 23=false/\∃x,Wt PROG (n+2) 23 [x]/\a= .t x)):∃e l,a=lst e l:=by
 obtain⟨x,h1,rfl⟩:=nT h (by kernel_rfl)
 have hu:=(Tryz.underlying23:PROG.underlying 23=_)
 obtain⟨b,l,h2,_,h3⟩:=pL (fun r:Int=> [ti r]) hu h1 (fun cs hc=>iu hc)
 rw [vg] at h2
 simp only [List.cons.injEq,and_true] at h2
 subst h2
 exact⟨b,l,rfl⟩
set_option maxRecDepth 1000000 in
theorem Cp{n:Nat}{a:AV}(h:(al PROG 25=true/\∃l,Wt PROG (n+2) 25 l/\a= .agg (l.map .t))\/(al PROG 25=false/\∃x,Wt PROG (n+2) 25 [x]/\a= .t x)):∃v:Fr,a=Av v:=by
 obtain⟨l,h1,rfl⟩:=Co h (by kernel_rfl)
 obtain⟨w,rfl⟩:=u4 h1
 exact⟨w,rfl⟩
set_option maxRecDepth 1000000 in
theorem wK{n:Nat}{a:AV}(h:(al PROG 26=true/\∃l,Wt PROG (n+4) 26 l/\a= .agg (l.map .t))\/(al PROG 26=false/\∃x,Wt PROG (n+4) 26 [x]/\a= .t x)):∃e l,a=LN e l/\(e=true->l= []):=by
 obtain⟨x,h1,rfl⟩:=nT h (by kernel_rfl)
 have hu:=(Tryz.underlying26:PROG.underlying 26=_)
 obtain⟨b,l,h2,h4,_⟩:=pL (fun x:Fr=> [ti x.1,ti x.2]) hu h1 (fun cs hc=>u4 (n:=n+1) hc)
 rw [zQ] at h2
 simp only [List.cons.injEq,and_true] at h2
 subst h2
 exact⟨b,l,rfl,h4⟩
set_option maxRecDepth 1000000 in
theorem CB{n:Nat}{a:AV}(h:(al PROG 3=true/\∃l,Wt PROG (n+1) 3 l/\a= .agg (l.map .t))\/(al PROG 3=false/\∃x,Wt PROG (n+1) 3 [x]/\a= .t x)):∃m,a=I m:=by
 obtain⟨x,h1,rfl⟩:=nT h (by kernel_rfl)
 obtain⟨m,h2⟩:=iu h1
 simp only [List.cons.injEq,and_true] at h2
 subst h2
 exact⟨m,rfl⟩
end Go.Aev.Wd.Lg
namespace Go.Aev.Gen
open Go Go.Aev Go.Aev.Wd Go.Aev.Wd.Lg Go.Proofs
set_option maxRecDepth 1000000 in
theorem claim3(vs:List AV)(h:lY PROG (19+1) Tryz.f3.params.toList vs):Or (.call 3) vs []=some [.bool true]:=by
 rw [Tryz.params3] at h
 obtain⟨a,_,rfl,h1,b,_,rfl,h2,c,_,rfl,h3,d,_,rfl,h4,f,_,rfl,h5,g,_,rfl,h6,rfl⟩:=h
 obtain⟨e,q,rfl,hq,hl⟩:=zi h1
 obtain⟨n,rfl⟩:=CB h2
 obtain⟨eg,gl,rfl⟩:=BV h3
 obtain⟨v,rfl⟩:=Cp h4
 obtain⟨ep,p,rfl,_⟩:=wK h5
 obtain⟨et,t,rfl,_⟩:=wK h6
 exact AB q e eg ep et n gl v p t hq (Nat.le_trans hl (by decide))
end Go.Aev.Gen
