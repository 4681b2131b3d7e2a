import Derived.Test.YtcffabneepdohaaGreatDoorBlastBackQ21
set_option linter.all false
namespace Go.Aev.Gen
open Go Go.Aev
theorem vR(l:List (Int×Int))(p:Int×Int):bW l++ [[ti p.1,ti p.2]]=bW (l++ [p]):=by simp [bW]
theorem xm{n:Nat}(h:n<=1000000):bH 16 n=some ():=dc h
section
variable {x y q:Int} {ec:Bool} {cs:List (Int×Int)}
abbrev P4(x y:Int)(z:Bool)(ec:Bool)(cs:List (Int×Int))(i:Int):List AV:= [I x,I y,r0,r1,B z,AV.t (T.aa 2 ec (bW cs)),I (cs.length:Int),I i]
theorem CQ(hl:cs.length<=100000):∀(r:List (Int×Int)) (i:Nat) (z:Bool) (acc:List (Int×Int)),cs.drop i=r->acc.length+2 * r.length<=900000->
  Or kU (P4 x y z ec cs (i:Int)) [qX,ad.box [I 0,I 0,V'2,I q],ad.sl false 2 false (bW acc)]=some [ti 0,ti 0,T.aa 2 false (bW (acc++fk x y z r)),ti q]:=by
 intro r;induction r with
 | nil=>
  intro i z acc g m;have e:¬(i:Int) < (cs.length:Int):=by have:=bu g;omega
  refine ai ?_;rw [xw,decide_eq_false e,aV,fk];rw [Xu] at m;cases z with
  | true=>simp only [Xc,aV,aS,XA]
  | false=>simp only [Xe,aV,aS,iX,Xh,xm (show acc.length+1<=1000000 by omega),aI,X3,vR acc (x,y)]
 | cons c r l=>
  intro i z acc g m;obtain⟨g1,n,j⟩:=bt g;have e:(i:Int) < (cs.length:Int):=by omega
  have h0: 0<=(i:Int)/\(i:Int) < (cs.length:Int):=by omega
  rw [Xj] at m;have eb:(bif !z then decide (c.1>=x) else false)= (!z && decide (c.1>=x)):=by cases z <;> rfl
  rw [fk];by_cases k:c.1=x
  .have f:(c.1==x)=true:=by simpa using k
   rw [if_pos k,Yf];cases h:(!z && decide (c.1>=x)) with
   | true=>have d:=l (i+1) true (acc++ [(x,y)]) j (by simp;omega);refine ai ?_;rw [xw,decide_eq_true e,aS];simp only [aI,aL,aU,aP,iX,if_pos h0,l6 g1,eb,h,aS,f,Xc,aV,Xh,xm (show acc.length+1<=1000000 by omega),X3,vR acc (x,y),next i (show i<=1000000 by omega)];rw [show(z || true)=true by cases z <;> rfl,show acc++ ([(x,y)] ++fk x y true r)=acc++ [(x,y)] ++fk x y true r by simp];exact d
   | false=>have d:=l (i+1) z acc j (by omega);refine ai ?_;rw [xw,decide_eq_true e,aS];simp only [aI,aL,aU,aP,iX,if_pos h0,l6 g1,eb,h,aV,f,Xc,next i (show i<=1000000 by omega)];rw [show(z || false)=z by cases z <;> rfl,Yf];exact d
  .have f:(c.1==x)=false:=by simpa using k
   rw [if_neg k];cases h:(!z && decide (c.1>=x)) with
   | true=>have d:=l (i+1) true (acc++ [(x,y)] ++ [c]) j (by simp;omega);refine ai ?_;rw [xw,decide_eq_true e,aS];simp only [aI,aL,aU,aP,iX,if_pos h0,l6 g1,eb,h,aS,f,Xe,Xh,xm (show acc.length+1<=1000000 by omega),X3,vR acc (x,y),XK,xm (show acc.length+1+1<=1000000 by omega),next i (show i<=1000000 by omega)];rw [show(z || true)=true by cases z <;> rfl,show acc++ ([(x,y)] ++ ([c] ++fk x y true r))=acc++ [(x,y)] ++ [c] ++fk x y true r by simp,vR];exact d
   | false=>have d:=l (i+1) z (acc++ [c]) j (by simp;omega);refine ai ?_;rw [xw,decide_eq_true e,aS];simp only [aI,aL,aU,aP,iX,if_pos h0,l6 g1,eb,h,aV,aS,f,Xe,Xh,xm (show acc.length+1<=1000000 by omega),X3,next i (show i<=1000000 by omega)];rw [show(z || false)=z by cases z <;> rfl,Yf,show acc++ ([c] ++fk x y z r)=acc++ [c] ++fk x y z r by simp,vR];exact d
theorem Sn(hl:cs.length<=100000):∀(r:List (Int×Int)) (i:Nat) (z:Bool),cs.drop i=r->
  ∃c:T,Or kU (P4 x y z ec cs (i:Int)) [qX,ad.box [I 0,I 0,AV.t (T.aC true),I q]]=some [ti 0,ti 0,c,ti q]/\c.aQ 2=some ((fk x y z r).isEmpty,bW (fk x y z r)):=by
 intro r;induction r with
 | nil=>
  intro i z g;have e:¬(i:Int) < (cs.length:Int):=by have:=bu g;omega
  cases z with
  | true=>refine⟨T.aC true,ai ?_,rfl⟩;rw [uV,decide_eq_false e,aV];rfl
  | false=>refine⟨T.aa 2 false (bW [(x,y)]),ai ?_,rfl⟩;rw [uV,decide_eq_false e,aV];rfl
 | cons c r l=>
  intro i z g;obtain⟨g1,m,j⟩:=bt g;have e:(i:Int) < (cs.length:Int):=by omega
  have h0: 0<=(i:Int)/\(i:Int) < (cs.length:Int):=by omega
  have hrl:r.length<=100000:=by have:=congrArg List.length g;rw [Yi,Xj] at this;omega
  have eb:(bif !z then decide (c.1>=x) else false)= (!z && decide (c.1>=x)):=by cases z <;> rfl
  rw [fk];by_cases k:c.1=x
  .have f:(c.1==x)=true:=by simpa using k
   rw [if_pos k,Yf];cases h:(!z && decide (c.1>=x)) with
   | true=>have d:=CQ (x:=x) (y:=y) (q:=q) (ec:=ec) hl r (i+1) true [(x,y)] j (by simp;omega);refine⟨T.aa 2 false (bW ([(x,y)] ++fk x y true r)),ai ?_,by rw [show(z || true)=true by cases z <;> rfl];rfl⟩;rw [uV,decide_eq_true e,aS];simp only [aI,aL,aU,aP,iX,if_pos h0,l6 g1,eb,h,aS,f,Xc,aV,X4,next i (show i<=1000000 by omega)];exact d
   | false=>
    obtain⟨t,k1,k2⟩:=l (i+1) z j;refine⟨t,ai ?_, ?_⟩
    .rw [uV,decide_eq_true e,aS];simp only [aI,aL,aU,aP,iX,if_pos h0,l6 g1,eb,h,aV,f,Xc,next i (show i<=1000000 by omega)];exact k1
    .rw [show(z || false)=z by cases z <;> rfl];exact k2
  .have f:(c.1==x)=false:=by simpa using k
   rw [if_neg k];cases h:(!z && decide (c.1>=x)) with
   | true=>have d:=CQ (x:=x) (y:=y) (q:=q) (ec:=ec) hl r (i+1) true [(x,y),c] j (by simp;omega);refine⟨T.aa 2 false (bW ([(x,y),c] ++fk x y true r)),ai ?_,by rw [show(z || true)=true by cases z <;> rfl];rfl⟩;rw [uV,decide_eq_true e,aS];simp only [aI,aL,aU,aP,iX,if_pos h0,l6 g1,eb,h,aS,f,Xe,X4,next i (show i<=1000000 by omega)];exact d
   | false=>have d:=CQ (x:=x) (y:=y) (q:=q) (ec:=ec) hl r (i+1) z [c] j (by simp;omega);refine⟨T.aa 2 false (bW ([c] ++fk x y z r)),ai ?_,by rw [show(z || false)=z by cases z <;> rfl];rfl⟩;rw [uV,decide_eq_true e,aS];simp only [aI,aL,aU,aP,iX,if_pos h0,l6 g1,eb,h,aV,aS,f,Xe,X4,next i (show i<=1000000 by omega)];exact d
end
theorem JL(x y:Int):∀(r:List (Int×Int)) (z:Bool),(fk x y z r).length<=r.length+ (bif z then 0 else 1)
 | [],z=>by cases z <;> simp [fk]
 | c::r,z=>by
  have h:=JL x y r (z || (!z && decide (c.1>=x)));rw [fk,XK,XK,Xj];have e:(if c.1=x then([]:List (Int×Int)) else [c]).length<=1:=by split <;> simp
  cases z with
  | true=>simp only [Xc,X3,cond_false,Xu,YE,cond_true] at h⊢;omega
  | false=>
   cases d:decide (c.1>=x) with
   | true=>rw [d] at h;simp only [Xe,Yk,cond_true,cond_false,Xh,XG] at h⊢;omega
   | false=>rw [d] at h;simp only [Xe,X4,cond_false,Xu,XG] at h⊢;omega
theorem UL{v:Va}{x y:Int}(hl:v.cs.length<=100000):∃c:T,Or (.call 93) [VG v,I x,I y] []=some [ti 0,ti 0,c,ti v.r]/\c.aQ 2=some ((fk x y (y==v.r) v.cs).isEmpty,bW (fk x y (y==v.r) v.cs)):=by obtain⟨c,d,e⟩:=Sn (x:=x) (y:=y) (q:=v.r) (ec:=v.ec) hl v.cs 0 (y==v.r) rfl;refine⟨c,ai ?_,e⟩;rw [WL];simp only [iX];exact d
open Go Go.Aev
theorem Nv(o b:Int)(ks:List Int)(n:Int):∃c t:Int,Wo.lC o b ks n= [ti (pE o b ks n),ti c,ti t]:=by
 have key:∀{l:List T},Wo.lC o b ks n=l->(∃w c t:Int,l= [ti w,ti c,ti t])->∃c t:Int,Wo.lC o b ks n= [ti (pE o b ks n),ti c,ti t]:=by rintro l h ⟨w,c,t,rfl⟩;refine⟨c,t, ?_⟩;unfold pE;rw [h]
 refine key rfl ?_;unfold Wo.lC;split
 .exact⟨_,_,_,rfl⟩
 split
 .exact⟨_,_,_,rfl⟩
 split
 .exact⟨_,_,_,rfl⟩
 split
 .exact⟨_,_,_,rfl⟩
 split
 .exact⟨_,_,_,rfl⟩
 .exact⟨_,_,_,rfl⟩
structure L6 (R:Option (List T)) (w:Va) (z:Bool):Prop where
 a:∃c,R=some [ti w.n,ti w.d,c,ti w.r,tb z]/\c.aQ 2=some (w.ec,bW w.cs)
abbrev I0(x:Nd):ad:=ad.box [I x.op,aa x.ek x.ks,I x.n,I x.d,AV.t (T.str x.nm)]
theorem RK{ev:Bool}{vs:List Va}{x:Nd}{b:Int}(hl:vs.length<=1000):∀(r:List Va) (i:Nat) (acc:List Int) (e:Bool),vs.drop i=r->(e=true->acc= [])->acc.length=i->
  Or kS [I b,r0,r1,V'2,VL ev vs,I (vs.length:Int),I (i:Int)] [I0 x,qX,ad.sl false 1 e (enc acc)]=some [ti (pE x.op b (acc++r.map λv=>v.n) x.n),ti 1,T.aa 2 true [],ti 0,tb true]:=by
 intro r;induction r with
 | nil=>
  intro i acc e g o j;have f:¬(i:Int) < (vs.length:Int):=by have:=bu g;omega
  obtain⟨c,t,m⟩:=Nv x.op b acc x.n;have d:=Wo.s8 x.op b e acc x.n;rw [m] at d;have k:=Kz (pE x.op b acc x.n);refine ai ?_;rw [LB,decide_eq_false f,aV,XY,XA];simp only [aI,aL,aU,aP,d,k,bO,cD]
 | cons v r u=>
  intro i acc e g o j;obtain⟨g1,w,l⟩:=bt g;have f:(i:Int) < (vs.length:Int):=by omega
  have h0: 0<=(i:Int)/\(i:Int) < (vs.length:Int):=by omega
  have p:=u (i+1) (acc++ [v.n]) false l (λh=>by cases h) (by simp [j]);refine ai ?_;rw [LB,decide_eq_true f,aS];simp only [aI,aL,aU,aP,dU,if_pos h0,oH g1,cY,aE,Xh,dc (show acc.length+1<=1000000 by omega),X4,PI,next i (show i<=1000000 by omega)];rw [Xq,show acc++v.n::r.map (λv=>v.n)=acc++ [v.n] ++r.map λv=>v.n by simp];exact p
structure VC (a:As) (ms:List Me) (x:Nd) (vs:List Va) (q:Nat):Prop where
 op: 1<=x.op/\x.op<=25
 l:vs.length<=1000
 qb:q<=90000
 ok:∀v∈vs,gV q v
 k1:x.op=3\/x.op=12->1<=vs.length
 k2:x.op=6\/x.op=8\/x.op=13\/x.op=14\/x.op=24->2<=vs.length
 k3:x.op=7\/x.op=25->3<=vs.length
 k9:x.op=9->a.ds.length<=100/\∃(k:Nat) (m:Me),bp a.ds x.nm= (k:Int)/\ms[k]? =some m/\m.rs.length<=1000/\(∀e∈m.rs,e.ar.length=vs.length/\gV q e.to)/\gV q m.re
theorem gV.le{q p:Nat}{v:Va}(h:gV q v)(c:q<=p):gV p v:=⟨X2 h.l c,h.e⟩
theorem iZ{vs:List Va}{i:Nat}{v:Va}(h:vs[i]? =some v):cy (vs.map vv) i=vv v:=by unfold cy;rw [Xa,XU,h];rfl
theorem IL(vs:List Va):(vs.map vv).map (λv=>v.n)=vs.map λv=>v.n:=by rw [Yr];rfl
theorem Ew{vs:List Va}(p:Int->Bool):(vs.map vv).any (λv=>p v.n)=vs.any λv=>p v.n:=by rw [List.any_map];rfl
abbrev iC(b:Bool):Va:=⟨true,bif b then 1 else 0,1,true,[],0⟩
section
variable {a:As} {ew ev:Bool} {ms:List Me} {s b:Int} {x:Nd} {vs:List Va} {q:Nat}
def AI(a:As)(ew:Bool)(ms:List Me)(s:Int)(x:Nd)(ev:Bool)(vs:List Va)(b:Int)(q:Nat):Prop:=
 ∃w z,L6 (Or (.call 63) [AG a,WG ew ms,I s,NG x,VL ev vs,I b] []) w z/\gV (q+1) w/\dM PM (Wf a.ds ms) x.op x.n x.d x.nm (vs.map vv) b= (bif z then some (vv w) else none)
theorem pq{z:Bool}(h:au aj ann Or (.call 63) [AG a,WG ew ms,I s,NG x,VL ev vs,I b] []=some [ti (bif z then 1 else 0),ti 1,T.aa 2 true [],ti 0,tb true])(c:dM PM (Wf a.ds ms) x.op x.n x.d x.nm (vs.map vv) b=some (bP z)):AI a ew ms s x ev vs b q:=
 ⟨iC z,true,⟨T.aa 2 true [],ai h,rfl⟩,⟨XZ _,λ_=>rfl⟩,c⟩
theorem pD(h: 15<=x.op/\x.op<=23)(hl:vs.length<=1000)(e:au aj ann Or (.call 63) [AG a,WG ew ms,I s,NG x,VL ev vs,I b] []=Or kS [I b,r0,r1,V'2,VL ev vs,I (vs.length:Int),I 0] [I0 x,qX,ad.sl false 1 true []]):AI a ew ms s x ev vs b q:=by have d:=RK (ev:=ev) (x:=x) (b:=b) hl vs 0 [] true rfl (λ_=>rfl) rfl;rw [Yf] at d;refine⟨⟨true,pE x.op b (vs.map λv:Va=>v.n) x.n,1,true,[],0⟩,true,⟨T.aa 2 true [],ai (e.trans d),rfl⟩,⟨XZ _,λ_=>rfl⟩, ?_⟩;unfold dM;rw [if_neg (by omega),if_neg (by omega),if_neg (by omega),if_neg (by omega),if_neg (by omega),if_neg (by omega),if_neg (by omega),if_neg (by omega),if_neg (by omega),if_neg (by omega),if_neg (by omega),if_neg (by omega),if_neg (by omega),if_neg (by omega),IL];rfl
theorem T4(o:VC a ms x vs q):AI a ew ms s x ev vs b q:=by
 obtain⟨op,ek,ks,n,d,nm⟩:=x;have A:∀{i:Nat},i < vs.length->vs[i]? =some (vs.getD i (iC false)):=λ{i} h=>by rw [Xa,Xd h];rfl
 rcases ux o.op with e | e | e | e | e | e | e | e | e | e | e | e | e | e | e | e | e | e | e | e | e | e | e | e | e <;> (dsimp only at e;subst e)
 .refine pq (z:=true) ?_ rfl;rw [V7];simp only [aI,aL,aU,dI,dz,dJ,fO,aP,bO,pg]
 .refine pq (z:=false) ?_ rfl;rw [Wk];simp only [aI,aL,aU,dI,dz,dJ,fO,aP,bO,pg]
 .have g:=A (i:=0) (o.k1 (.inl rfl));generalize vs.getD 0 (iC false)=u at g;have C:Or (.call 83) [I 0,AV.t (T.ptr [T.aa 4 ev (cS vs)])] []=some [tb (u.n==1)]:=Ab (i:=0) g;refine pq (z:= !(u.n==1)) ?_ ?_
  .rw [Wu];simp only [aI,aL,aU,dI,dz,dJ,fO,bA,aP,bO,C,pg]
  .show some (bP (!iM (cy (vs.map vv) 0)))=_;rw [iZ g];rfl
 .refine pq (z:= !(vs.any λv=>v.n==0)) ?_ ?_
  .rw [Wv];simp only [aI,aL,aU,dI,dz,dJ,fO,bA,aP,bO,UH o.l,pg]
  .show some (bP (!((vs.map vv).any λv=>v.n==0)))=_;rw [Ew λn=>n==0]
 .refine pq (z:=vs.any λv=>v.n==1) ?_ ?_
  .rw [Ww];simp only [aI,aL,aU,dI,dz,dJ,fO,bA,aP,bO,UG o.l,pg]
  .show some (bP ((vs.map vv).any λv=>v.n==1))=_;rw [Ew λn=>n==1]
 .have J:=o.k2 (.inl rfl);have g:=A (i:=0) (by omega);have p:=A (i:=1) (by omega);generalize vs.getD 0 (iC false)=u at g;generalize vs.getD 1 (iC false)=j at p;have C:Or (.call 83) [I 0,AV.t (T.ptr [T.aa 4 ev (cS vs)])] []=some [tb (u.n==1)]:=Ab (i:=0) g;have O:Or (.call 83) [I 1,AV.t (T.ptr [T.aa 4 ev (cS vs)])] []=some [tb (j.n==1)]:=Ab (i:=1) p;refine pq (z:=(u.n==1)== (j.n==1)) ?_ ?_
  .rw [Wx];simp only [aI,aL,aU,dI,dz,dJ,fO,bA,aP,bO,C,O,pg]
  .show some (bP (iM (cy (vs.map vv) 0)==iM (cy (vs.map vv) 1)))=_;rw [iZ g,iZ p];rfl
 .have J:=o.k3 (.inl rfl);have g:=A (i:=0) (by omega);have p:=A (i:=1) (by omega);have B:=A (i:=2) (by omega);generalize vs.getD 0 (iC false)=u at g;generalize vs.getD 1 (iC false)=j at p;generalize vs.getD 2 (iC false)=f at B;have C:Or (.call 83) [I 0,AV.t (T.ptr [T.aa 4 ev (cS vs)])] []=some [tb (u.n==1)]:=Ab (i:=0) g;have E:(0:Int)<=1/\(1:Int) < (vs.length:Int):=by omega
  have Q:(0:Int)<=2/\(2:Int) < (vs.length:Int):=by omega
  have ee:dM PM (Wf a.ds ms) 7 n d nm (vs.map vv) b=some (vv (bif u.n==1 then j else f)):=by show some (if iM (cy (vs.map vv) 0)=true then cy (vs.map vv) 1 else cy (vs.map vv) 2)=_;rw [iZ g,iZ p,iZ B];show some (if(u.n==1)=true then vv j else vv f)=_;cases(u.n==1) <;> rfl
  cases F:(u.n==1) with
  | true=>rw [F] at C ee;refine⟨j,true,⟨T.aa 2 j.ec (bW j.cs),ai ?_,rfl⟩,(o.ok j (Xg p)).le (by omega),ee⟩;rw [LC];simp only [aI,aL,aU,dI,dz,dJ,fO,bA,aP,C,aS,dU,if_pos E,iK p,cY]
  | false=>rw [F] at C ee;refine⟨f,true,⟨T.aa 2 f.ec (bW f.cs),ai ?_,rfl⟩,(o.ok f (Xg B)).le (by omega),ee⟩;rw [LC];simp only [aI,aL,aU,dI,dz,dJ,fO,bA,aP,C,aV,dU,if_pos Q,iK B,cY]
 .have J:=o.k2 (.inr (.inl rfl));have g:=A (i:=0) (by omega);have p:=A (i:=1) (by omega);generalize vs.getD 0 (iC false)=u at g;generalize vs.getD 1 (iC false)=j at p;have D:(0:Int)<=0/\(0:Int) < (vs.length:Int):=by omega
  have E:(0:Int)<=1/\(1:Int) < (vs.length:Int):=by omega
  refine pq (z:=u.n==j.n && u.d==j.d) ?_ ?_
  .rw [Wy];simp only [aI,aL,aU,dI,dz,dJ,fO,bA,aP,bO,dU,if_pos D,if_pos E,iK g,iK p,Yk,pg]
  .show some (bP ((cy (vs.map vv) 0).n== (cy (vs.map vv) 1).n && (cy (vs.map vv) 0).d== (cy (vs.map vv) 1).d))=_;rw [iZ g,iZ p];rfl
 .obtain⟨V,k,m,R,M,f3,N,S⟩:=o.k9 rfl;have X:Or (.call 39) [AG a,AV.t (T.str nm)] []=some [ti (k:Int)]:=(uH V).trans (by rw [R]);have D: 0<=(k:Int)/\(k:Int) < (ms.length:Int):=by have:=(W9.1 M).1;omega
  have W:=o.qb;obtain⟨c,G,H⟩:=(UI (er:=m.er) (ev:=ev) (m:=m) (vs:=vs) f3 o.l (λe L=>⟨(N e L).1,(N e L).2.le (by omega)⟩) (S.le (by omega))).a;have hw:gV q (eR m.rs m.re (vs.map λv=>v.n)):=DT (P:=λv=>gV q v) S λe L=>(N e L).2;refine⟨eR m.rs m.re (vs.map λv=>v.n),true,⟨_,ai ?_,(rfl:(T.aa 2 (eR m.rs m.re (vs.map λv=>v.n)).ec (bW (eR m.rs m.re (vs.map λv=>v.n)).cs)).aQ 2=_)⟩,hw.le (by omega), ?_⟩
  .rw [Wz];simp only [aI,aL,aU,dI,dz,dJ,fO,bA,aP,X,iY,if_pos D,vS M,oT,cY,G,H]
  .show some (Wf a.ds ms nm ((vs.map vv).map λv=>v.n))=_;rw [IL];unfold Wf;rw [R,Xv,Xa,M];rfl
 .refine⟨⟨true,n,d,true,[],0⟩,true,⟨T.aC true,ai ?_,rfl⟩,⟨XZ _,λ_=>rfl⟩,rfl⟩;rw [V8]
 .obtain⟨w,z,G,H⟩:=Ky (ev:=ev) (vs:=vs) (x:=⟨11,ek,ks,n,d,nm⟩) o.l (λh=>by simp at h);refine⟨⟨true,w.n,w.d,true,[],0⟩,z,⟨T.aa 2 true [],ai ?_,rfl⟩,⟨XZ _,λ_=>rfl⟩, ?_⟩
  .rw [V9];simp only [aI,aL,aU,dI,dz,dJ,fO,tI,bA,bA,aP,cD,show Or (.call 89) [AV.agg [I 11,AV.t (T.aa 1 ek (enc ks)),I n,I d,AV.t (T.str nm)],VL ev vs] []=_ from G]
  .show wQ 11 n d (vs.map vv)=_;rw [H];cases z <;> rfl
 .obtain⟨w,z,G,H⟩:=Ky (ev:=ev) (vs:=vs) (x:=⟨12,ek,ks,n,d,nm⟩) o.l (λ_=>o.k1 (.inr rfl));refine⟨⟨true,w.n,w.d,true,[],0⟩,z,⟨T.aa 2 true [],ai ?_,rfl⟩,⟨XZ _,λ_=>rfl⟩, ?_⟩
  .rw [Wa];simp only [aI,aL,aU,dI,dz,dJ,fO,tI,bA,bA,aP,cD,show Or (.call 89) [AV.agg [I 12,AV.t (T.aa 1 ek (enc ks)),I n,I d,AV.t (T.str nm)],VL ev vs] []=_ from G]
  .show wQ 12 n d (vs.map vv)=_;rw [H];cases z <;> rfl
 .have J:=o.k2 (.inr (.inr (.inl rfl)));have g:=A (i:=0) (by omega);have p:=A (i:=1) (by omega);generalize vs.getD 0 (iC false)=u at g;generalize vs.getD 1 (iC false)=j at p;have D:(0:Int)<=0/\(0:Int) < (vs.length:Int):=by omega
  have E:(0:Int)<=1/\(1:Int) < (vs.length:Int):=by omega
  obtain⟨c,t,K⟩:=Iy u.n u.d j.n j.d;refine pq (z:=sr u.n u.d j.n j.d) ?_ ?_
  .rw [Wb];simp only [aI,aL,aU,dI,dz,dJ,fO,bA,aP,bO,dU,if_pos D,if_pos E,iK g,iK p,K,pg]
  .show some (bP (sr (cy (vs.map vv) 0).n (cy (vs.map vv) 0).d (cy (vs.map vv) 1).n (cy (vs.map vv) 1).d))=_;rw [iZ g,iZ p];rfl
 .have J:=o.k2 (.inr (.inr (.inr (.inl rfl))));have g:=A (i:=0) (by omega);have p:=A (i:=1) (by omega);generalize vs.getD 0 (iC false)=u at g;generalize vs.getD 1 (iC false)=j at p;have D:(0:Int)<=0/\(0:Int) < (vs.length:Int):=by omega
  have E:(0:Int)<=1/\(1:Int) < (vs.length:Int):=by omega
  obtain⟨c,t,K⟩:=Iy j.n j.d u.n u.d;refine pq (z:= !sr j.n j.d u.n u.d) ?_ ?_
  .rw [Wc];simp only [aI,aL,aU,dI,dz,dJ,fO,bA,aP,bO,dU,if_pos D,if_pos E,iK g,iK p,K,pg]
  .show some (bP (!sr (cy (vs.map vv) 1).n (cy (vs.map vv) 1).d (cy (vs.map vv) 0).n (cy (vs.map vv) 0).d))=_;rw [iZ g,iZ p];rfl
 .exact pD ⟨by simp,by simp⟩ o.l (by rw [We];simp only [dU])
 .exact pD ⟨by simp,by simp⟩ o.l (by rw [Wg];simp only [dU])
 .exact pD ⟨by simp,by simp⟩ o.l (by rw [Wh];simp only [dU])
 .exact pD ⟨by simp,by simp⟩ o.l (by rw [Wi];simp only [dU])
 .exact pD ⟨by simp,by simp⟩ o.l (by rw [Wj];simp only [dU])
 .exact pD ⟨by simp,by simp⟩ o.l (by rw [Wl];simp only [dU])
 .exact pD ⟨by simp,by simp⟩ o.l (by rw [Wm];simp only [dU])
 .exact pD ⟨by simp,by simp⟩ o.l (by rw [Wn];simp only [dU])
 .exact pD ⟨by simp,by simp⟩ o.l (by rw [Wp];simp only [dU])
 .have J:=o.k2 (.inr (.inr (.inr (.inr rfl))));have g:=A (i:=0) (by omega);have p:=A (i:=1) (by omega);generalize vs.getD 0 (iC false)=u at g;generalize vs.getD 1 (iC false)=j at p;have D:(0:Int)<=0/\(0:Int) < (vs.length:Int):=by omega
  have E:(0:Int)<=1/\(1:Int) < (vs.length:Int):=by omega
  have F:=o.ok u (Xg g);have W:=o.qb;have Y:=UK (v:=u) (x:=j.n) (by have:=F.l;omega);refine⟨⟨true,r8 u.r j.n u.cs,1,true,[],0⟩,true,⟨T.aa 2 true [],ai ?_,rfl⟩,⟨XZ _,λ_=>rfl⟩, ?_⟩
  .rw [Wq];simp only [aI,aL,aU,dI,dz,dJ,fO,bA,aP,cD,dU,if_pos D,if_pos E,iK g,iK p,cY,Y,Kz]
  .show some (fT (r8 (cy (vs.map vv) 0).r (cy (vs.map vv) 1).n (cy (vs.map vv) 0).cs))=_;rw [iZ g,iZ p];rfl
 .have J:=o.k3 (.inr rfl);have g:=A (i:=0) (by omega);have p:=A (i:=1) (by omega);have B:=A (i:=2) (by omega);generalize vs.getD 0 (iC false)=u at g;generalize vs.getD 1 (iC false)=j at p;generalize vs.getD 2 (iC false)=f at B;have D:(0:Int)<=0/\(0:Int) < (vs.length:Int):=by omega
  have E:(0:Int)<=1/\(1:Int) < (vs.length:Int):=by omega
  have Q:(0:Int)<=2/\(2:Int) < (vs.length:Int):=by omega
  have F:=o.ok u (Xg g);have W:=o.qb;obtain⟨c,Z,U⟩:=UL (v:=u) (x:=j.n) (y:=f.n) (by have:=F.l;omega);have hlen:=JL j.n f.n u.cs (f.n==u.r);refine⟨⟨false,0,0,(fk j.n f.n (f.n==u.r) u.cs).isEmpty,fk j.n f.n (f.n==u.r) u.cs,u.r⟩,true,⟨T.aa 2 (fk j.n f.n (f.n==u.r) u.cs).isEmpty (bW (fk j.n f.n (f.n==u.r) u.cs)),ai ?_,rfl⟩,⟨?_,λh=>Yt.1 h⟩, ?_⟩
  .rw [Ws];simp only [aI,aL,aU,dI,dz,dJ,fO,bA,aP,dU,if_pos D,if_pos E,if_pos Q,iK g,iK p,iK B,cY,Z,U]
  .have G:=F.l;have H:(bif (f.n==u.r) then 0 else 1)<=1:=by cases(f.n==u.r) <;> decide
   show(fk j.n f.n (f.n==u.r) u.cs).length<=q+1;omega
  .show some (⟨0,0,fk (cy (vs.map vv) 1).n (cy (vs.map vv) 2).n ((cy (vs.map vv) 2).n== (cy (vs.map vv) 0).r) (cy (vs.map vv) 0).cs,(cy (vs.map vv) 0).r⟩:Vv)=_;rw [iZ g,iZ p,iZ B];rfl
end
end Go.Aev.Gen
