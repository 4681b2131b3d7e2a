import Derived.Test.YtcffabneepdohaaGreatDoorBlastMeansQ21
set_option linter.all false
namespace Go.Aev.Gen
open Go Go.Aev
theorem vC(l:List (Int×Int))(p:Int×Int):bL l++ [[ti p.1,ti p.2]]=bL (l++ [p]):=by simp [bL]
theorem wW{n:Nat}(h:n<=1000000):bA 16 n=some ():=cM h
section
variable {x y q:Int} {ec:Bool} {cs:List (Int×Int)}
abbrev P4(x y:Int)(z:Bool)(ec:Bool)(cs:List (Int×Int))(i:Int):List AV:= [I x,I y,r0,r1,B z,AV.t (T.ad 2 ec (bL cs)),I (cs.length:Int),I i]
theorem Cp(hl:cs.length<=100000):∀(r:List (Int×Int)) (i:Nat) (z:Bool) (d:List (Int×Int)),cs.drop i=r->d.length+2 * r.length<=900000->
  Or kY (P4 x y z ec cs (i:Int)) [qF,aa.box [I 0,I 0,V'2,I q],aa.sl false 2 false (bL d)]=some [ti 0,ti 0,T.ad 2 false (bL (d++fe x y z r)),ti q]:=by
 intro r;induction r with
 | nil=>
  intro i z d g n;have f:¬(i:Int) < (cs.length:Int):=by have:=bt g;omega
  refine ai ?_;rw [xd,decide_eq_false f,aX,fe];rw [WN] at n;cases z with
  | true=>simp only [Ws,aX,aR,WQ]
  | false=>simp only [Wu,aX,aR,iU,Wy,wW (show d.length+1<=1000000 by omega),aI,Xm,vC d (x,y)]
 | cons c r m=>
  intro i z d g n;obtain⟨g1,o,k⟩:=br g;have f:(i:Int) < (cs.length:Int):=by omega
  have h0: 0<=(i:Int)/\(i:Int) < (cs.length:Int):=by omega
  rw [Wz] at n;have eb:(bif !z then decide (c.1>=x) else false)= (!z && decide (c.1>=x)):=by cases z <;> rfl
  rw [fe];by_cases l:c.1=x
  .have h:(c.1==x)=true:=by simpa using l
   rw [if_pos l,XB];cases j:(!z && decide (c.1>=x)) with
   | true=>have e:=m (i+1) true (d++ [(x,y)]) k (by simp;omega);refine ai ?_;rw [xd,decide_eq_true f,aR];simp only [aI,aL,aV,aO,iU,if_pos h0,l7 g1,eb,j,aR,h,Ws,aX,Wy,wW (show d.length+1<=1000000 by omega),Xm,vC d (x,y),next i (show i<=1000000 by omega)];rw [show(z || true)=true by cases z <;> rfl,show d++ ([(x,y)] ++fe x y true r)=d++ [(x,y)] ++fe x y true r by simp];exact e
   | false=>have e:=m (i+1) z d k (by omega);refine ai ?_;rw [xd,decide_eq_true f,aR];simp only [aI,aL,aV,aO,iU,if_pos h0,l7 g1,eb,j,aX,h,Ws,next i (show i<=1000000 by omega)];rw [show(z || false)=z by cases z <;> rfl,XB];exact e
  .have h:(c.1==x)=false:=by simpa using l
   rw [if_neg l];cases j:(!z && decide (c.1>=x)) with
   | true=>have e:=m (i+1) true (d++ [(x,y)] ++ [c]) k (by simp;omega);refine ai ?_;rw [xd,decide_eq_true f,aR];simp only [aI,aL,aV,aO,iU,if_pos h0,l7 g1,eb,j,aR,h,Wu,Wy,wW (show d.length+1<=1000000 by omega),Xm,vC d (x,y),Xc,wW (show d.length+1+1<=1000000 by omega),next i (show i<=1000000 by omega)];rw [show(z || true)=true by cases z <;> rfl,show d++ ([(x,y)] ++ ([c] ++fe x y true r))=d++ [(x,y)] ++ [c] ++fe x y true r by simp,vC];exact e
   | false=>have e:=m (i+1) z (d++ [c]) k (by simp;omega);refine ai ?_;rw [xd,decide_eq_true f,aR];simp only [aI,aL,aV,aO,iU,if_pos h0,l7 g1,eb,j,aX,aR,h,Wu,Wy,wW (show d.length+1<=1000000 by omega),Xm,next i (show i<=1000000 by omega)];rw [show(z || false)=z by cases z <;> rfl,XB,show d++ ([c] ++fe x y z r)=d++ [c] ++fe x y z r by simp,vC];exact e
theorem RJ(hl:cs.length<=100000):∀(r:List (Int×Int)) (i:Nat) (z:Bool),cs.drop i=r->
  ∃c:T,Or kY (P4 x y z ec cs (i:Int)) [qF,aa.box [I 0,I 0,AV.t (T.aB true),I q]]=some [ti 0,ti 0,c,ti q]/\c.aQ 2=some ((fe x y z r).isEmpty,bL (fe x y z r)):=by
 intro r;induction r with
 | nil=>
  intro i z g;have e:¬(i:Int) < (cs.length:Int):=by have:=bt g;omega
  cases z with
  | true=>refine⟨T.aB true,ai ?_,rfl⟩;rw [uI,decide_eq_false e,aX];rfl
  | false=>refine⟨T.ad 2 false (bL [(x,y)]),ai ?_,rfl⟩;rw [uI,decide_eq_false e,aX];rfl
 | cons c r l=>
  intro i z g;obtain⟨g1,m,j⟩:=br g;have e:(i:Int) < (cs.length:Int):=by omega
  have h0: 0<=(i:Int)/\(i:Int) < (cs.length:Int):=by omega
  have hrl:r.length<=100000:=by have:=congrArg List.length g;rw [XK,Wz] at this;omega
  have eb:(bif !z then decide (c.1>=x) else false)= (!z && decide (c.1>=x)):=by cases z <;> rfl
  rw [fe];by_cases k:c.1=x
  .have f:(c.1==x)=true:=by simpa using k
   rw [if_pos k,XB];cases h:(!z && decide (c.1>=x)) with
   | true=>have d:=Cp (x:=x) (y:=y) (q:=q) (ec:=ec) hl r (i+1) true [(x,y)] j (by simp;omega);refine⟨T.ad 2 false (bL ([(x,y)] ++fe x y true r)),ai ?_,by rw [show(z || true)=true by cases z <;> rfl];rfl⟩;rw [uI,decide_eq_true e,aR];simp only [aI,aL,aV,aO,iU,if_pos h0,l7 g1,eb,h,aR,f,Ws,aX,Xn,next i (show i<=1000000 by omega)];exact d
   | false=>
    obtain⟨t,k1,k2⟩:=l (i+1) z j;refine⟨t,ai ?_, ?_⟩
    .rw [uI,decide_eq_true e,aR];simp only [aI,aL,aV,aO,iU,if_pos h0,l7 g1,eb,h,aX,f,Ws,next i (show i<=1000000 by omega)];exact k1
    .rw [show(z || false)=z by cases z <;> rfl];exact k2
  .have f:(c.1==x)=false:=by simpa using k
   rw [if_neg k];cases h:(!z && decide (c.1>=x)) with
   | true=>have d:=Cp (x:=x) (y:=y) (q:=q) (ec:=ec) hl r (i+1) true [(x,y),c] j (by simp;omega);refine⟨T.ad 2 false (bL ([(x,y),c] ++fe x y true r)),ai ?_,by rw [show(z || true)=true by cases z <;> rfl];rfl⟩;rw [uI,decide_eq_true e,aR];simp only [aI,aL,aV,aO,iU,if_pos h0,l7 g1,eb,h,aR,f,Wu,Xn,next i (show i<=1000000 by omega)];exact d
   | false=>have d:=Cp (x:=x) (y:=y) (q:=q) (ec:=ec) hl r (i+1) z [c] j (by simp;omega);refine⟨T.ad 2 false (bL ([c] ++fe x y z r)),ai ?_,by rw [show(z || false)=z by cases z <;> rfl];rfl⟩;rw [uI,decide_eq_true e,aR];simp only [aI,aL,aV,aO,iU,if_pos h0,l7 g1,eb,h,aX,aR,f,Wu,Xn,next i (show i<=1000000 by omega)];exact d
end
theorem Jf(x y:Int):∀(r:List (Int×Int)) (z:Bool),(fe x y z r).length<=r.length+ (bif z then 0 else 1)
 | [],z=>by cases z <;> simp [fe]
 | c::r,z=>by
  have h:=Jf x y r (z || (!z && decide (c.1>=x)));rw [fe,Xc,Xc,Wz];have e:(if c.1=x then([]:List (Int×Int)) else [c]).length<=1:=by split <;> simp
  cases z with
  | true=>simp only [Ws,Xm,cond_false,WN,XZ,cond_true] at h⊢;omega
  | false=>
   cases d:decide (c.1>=x) with
   | true=>rw [d] at h;simp only [Wu,XF,cond_true,cond_false,Wy,W4] at h⊢;omega
   | false=>rw [d] at h;simp only [Wu,Xn,cond_false,WN,W4] at h⊢;omega
theorem T6{v:Va}{x y:Int}(hl:v.cs.length<=100000):∃c:T,Or (.call 93) [VG v,I x,I y] []=some [ti 0,ti 0,c,ti v.r]/\c.aQ 2=some ((fe x y (y==v.r) v.cs).isEmpty,bL (fe x y (y==v.r) v.cs)):=by obtain⟨c,d,e⟩:=RJ (x:=x) (y:=y) (q:=v.r) (ec:=v.ec) hl v.cs 0 (y==v.r) rfl;refine⟨c,ai ?_,e⟩;rw [VV];simp only [iU];exact d
open Go Go.Aev
theorem MN(o b:Int)(ks:List Int)(n:Int):∃c t:Int,Wo.lE o b ks n= [ti (pe o b ks n),ti c,ti t]:=by
 have key:∀{l:List T},Wo.lE o b ks n=l->(∃w c t:Int,l= [ti w,ti c,ti t])->∃c t:Int,Wo.lE o b ks n= [ti (pe o b ks n),ti c,ti t]:=by rintro l h ⟨w,c,t,rfl⟩;refine⟨c,t, ?_⟩;unfold pe;rw [h]
 refine key rfl ?_;unfold Wo.lE;split
 .exact⟨_,_,_,rfl⟩
 split
 .exact⟨_,_,_,rfl⟩
 split
 .exact⟨_,_,_,rfl⟩
 split
 .exact⟨_,_,_,rfl⟩
 split
 .exact⟨_,_,_,rfl⟩
 .exact⟨_,_,_,rfl⟩
structure Ln (R:Option (List T)) (w:Va) (z:Bool):Prop where
 a:∃c,R=some [ti w.n,ti w.d,c,ti w.r,tb z]/\c.aQ 2=some (w.ec,bL w.cs)
abbrev Iu(x:Nd):aa:=aa.box [I x.op,ad x.ek x.ks,I x.n,I x.d,AV.t (T.str x.nm)]
theorem QY{ev:Bool}{vs:List Va}{x:Nd}{b:Int}(hl:vs.length<=1000):∀(r:List Va) (i:Nat) (d:List Int) (e:Bool),vs.drop i=r->(e=true->d= [])->d.length=i->
  Or kW [I b,r0,r1,V'2,VL ev vs,I (vs.length:Int),I (i:Int)] [Iu x,qF,aa.sl false 1 e (enc d)]=some [ti (pe x.op b (d++r.map λv=>v.n) x.n),ti 1,T.ad 2 true [],ti 0,tb true]:=by
 intro r;induction r with
 | nil=>
  intro i d e g p k;have j:¬(i:Int) < (vs.length:Int):=by have:=bt g;omega
  obtain⟨c,t,o⟩:=MN x.op b d x.n;have f:=Wo.s8 x.op b e d x.n;rw [o] at f;have l:=J3 (pe x.op b d x.n);refine ai ?_;rw [K0,decide_eq_false j,aX,Xj,WQ];simp only [aI,aL,aV,aO,f,l,cu,cz]
 | cons v r w=>
  intro i d e g p k;obtain⟨g1,z,m⟩:=br g;have j:(i:Int) < (vs.length:Int):=by omega
  have h0: 0<=(i:Int)/\(i:Int) < (vs.length:Int):=by omega
  have u:=w (i+1) (d++ [v.n]) false m (λh=>by cases h) (by simp [k]);refine ai ?_;rw [K0,decide_eq_true j,aR];simp only [aI,aL,aV,aO,dQ,if_pos h0,oz g1,dv,aD,Wy,cM (show d.length+1<=1000000 by omega),Xn,OW,next i (show i<=1000000 by omega)];rw [WL,show d++v.n::r.map (λv=>v.n)=d++ [v.n] ++r.map λv=>v.n by simp];exact u
structure VC (a:As) (ms:List Me) (x:Nd) (vs:List Va) (q:Nat):Prop where
 op: 1<=x.op/\x.op<=25
 l:vs.length<=1000
 qb:q<=90000
 ok:∀v∈vs,gR q v
 k1:x.op=3\/x.op=12->1<=vs.length
 k2:x.op=6\/x.op=8\/x.op=13\/x.op=14\/x.op=24->2<=vs.length
 k3:x.op=7\/x.op=25->3<=vs.length
 k9:x.op=9->a.ds.length<=100/\∃(k:Nat) (m:Me),bm a.ds x.nm= (k:Int)/\ms[k]? =some m/\m.rs.length<=1000/\(∀e∈m.rs,e.ar.length=vs.length/\gR q e.to)/\gR q m.re
theorem gR.le{q p:Nat}{v:Va}(h:gR q v)(c:q<=p):gR p v:=⟨Xl h.l c,h.e⟩
theorem iV{vs:List Va}{i:Nat}{v:Va}(h:vs[i]? =some v):cv (vs.map vv) i=vv v:=by unfold cv;rw [Wp,Xh,h];rfl
theorem Ib(vs:List Va):(vs.map vv).map (λv=>v.n)=vs.map λv=>v.n:=by rw [XW];rfl
theorem D6{vs:List Va}(p:Int->Bool):(vs.map vv).any (λv=>p v.n)=vs.any λv=>p v.n:=by rw [ZB];rfl
abbrev iz(b:Bool):Va:=⟨true,bif b then 1 else 0,1,true,[],0⟩
section
variable {a:As} {ew ev:Bool} {ms:List Me} {s b:Int} {x:Nd} {vs:List Va} {q:Nat}
def Af(a:As)(ew:Bool)(ms:List Me)(s:Int)(x:Nd)(ev:Bool)(vs:List Va)(b:Int)(q:Nat):Prop:=
 ∃w z,Ln (Or (.call 63) [AG a,WG ew ms,I s,NG x,VL ev vs,I b] []) w z/\gR (q+1) w/\dK PM (Wf a.ds ms) x.op x.n x.d x.nm (vs.map vv) b= (bif z then some (vv w) else none)
theorem o8{z:Bool}(h:au aj ann Or (.call 63) [AG a,WG ew ms,I s,NG x,VL ev vs,I b] []=some [ti (bif z then 1 else 0),ti 1,T.ad 2 true [],ti 0,tb true])(c:dK PM (Wf a.ds ms) x.op x.n x.d x.nm (vs.map vv) b=some (bM z)):Af a ew ms s x ev vs b q:=
 ⟨iz z,true,⟨T.ad 2 true [],ai h,rfl⟩,⟨Xr _,λ_=>rfl⟩,c⟩
theorem pd(h: 15<=x.op/\x.op<=23)(hl:vs.length<=1000)(e:au aj ann Or (.call 63) [AG a,WG ew ms,I s,NG x,VL ev vs,I b] []=Or kW [I b,r0,r1,V'2,VL ev vs,I (vs.length:Int),I 0] [Iu x,qF,aa.sl false 1 true []]):Af a ew ms s x ev vs b q:=by have d:=QY (ev:=ev) (x:=x) (b:=b) hl vs 0 [] true rfl (λ_=>rfl) rfl;rw [XB] at d;refine⟨⟨true,pe x.op b (vs.map λv:Va=>v.n) x.n,1,true,[],0⟩,true,⟨T.ad 2 true [],ai (e.trans d),rfl⟩,⟨Xr _,λ_=>rfl⟩, ?_⟩;unfold dK;rw [if_neg (by omega),if_neg (by omega),if_neg (by omega),if_neg (by omega),if_neg (by omega),if_neg (by omega),if_neg (by omega),if_neg (by omega),if_neg (by omega),if_neg (by omega),if_neg (by omega),if_neg (by omega),if_neg (by omega),if_neg (by omega),Ib];rfl
theorem Tp(o:VC a ms x vs q):Af a ew ms s x ev vs b q:=by
 obtain⟨op,ek,ks,n,d,nm⟩:=x;have A:∀{i:Nat},i < vs.length->vs[i]? =some (vs.getD i (iz false)):=λ{i} h=>by rw [Wp,Wv h];rfl
 rcases tZ o.op with e | e | e | e | e | e | e | e | e | e | e | e | e | e | e | e | e | e | e | e | e | e | e | e | e <;> (dsimp only at e;subst e)
 .refine o8 (z:=true) ?_ rfl;rw [Vk];simp only [aI,aL,aV,fA,eP,fB,gA,aO,cu,oX]
 .refine o8 (z:=false) ?_ rfl;rw [Vw];simp only [aI,aL,aV,fA,eP,fB,gA,aO,cu,oX]
 .have g:=A (i:=0) (o.k1 (.inl rfl));generalize vs.getD 0 (iz false)=u at g;have C:Or (.call 83) [I 0,AV.t (T.ptr [T.ad 4 ev (cO vs)])] []=some [tb (u.n==1)]:=zE (i:=0) g;refine o8 (z:= !(u.n==1)) ?_ ?_
  .rw [VE];simp only [aI,aL,aV,fA,eP,fB,gA,bK,aO,cu,C,oX]
  .show some (bM (!iJ (cv (vs.map vv) 0)))=_;rw [iV g];rfl
 .refine o8 (z:= !(vs.any λv=>v.n==0)) ?_ ?_
  .rw [VF];simp only [aI,aL,aV,fA,eP,fB,gA,bK,aO,cu,T2 o.l,oX]
  .show some (bM (!((vs.map vv).any λv=>v.n==0)))=_;rw [D6 λn=>n==0]
 .refine o8 (z:=vs.any λv=>v.n==1) ?_ ?_
  .rw [VH];simp only [aI,aL,aV,fA,eP,fB,gA,bK,aO,cu,T1 o.l,oX]
  .show some (bM ((vs.map vv).any λv=>v.n==1))=_;rw [D6 λn=>n==1]
 .have J:=o.k2 (.inl rfl);have g:=A (i:=0) (by omega);have p:=A (i:=1) (by omega);generalize vs.getD 0 (iz false)=u at g;generalize vs.getD 1 (iz false)=j at p;have C:Or (.call 83) [I 0,AV.t (T.ptr [T.ad 4 ev (cO vs)])] []=some [tb (u.n==1)]:=zE (i:=0) g;have O:Or (.call 83) [I 1,AV.t (T.ptr [T.ad 4 ev (cO vs)])] []=some [tb (j.n==1)]:=zE (i:=1) p;refine o8 (z:=(u.n==1)== (j.n==1)) ?_ ?_
  .rw [VI];simp only [aI,aL,aV,fA,eP,fB,gA,bK,aO,cu,C,O,oX]
  .show some (bM (iJ (cv (vs.map vv) 0)==iJ (cv (vs.map vv) 1)))=_;rw [iV g,iV p];rfl
 .have J:=o.k3 (.inl rfl);have g:=A (i:=0) (by omega);have p:=A (i:=1) (by omega);have B:=A (i:=2) (by omega);generalize vs.getD 0 (iz false)=u at g;generalize vs.getD 1 (iz false)=j at p;generalize vs.getD 2 (iz false)=f at B;have C:Or (.call 83) [I 0,AV.t (T.ptr [T.ad 4 ev (cO vs)])] []=some [tb (u.n==1)]:=zE (i:=0) g;have E:(0:Int)<=1/\(1:Int) < (vs.length:Int):=by omega
  have Q:(0:Int)<=2/\(2:Int) < (vs.length:Int):=by omega
  have ee:dK PM (Wf a.ds ms) 7 n d nm (vs.map vv) b=some (vv (bif u.n==1 then j else f)):=by show some (if iJ (cv (vs.map vv) 0)=true then cv (vs.map vv) 1 else cv (vs.map vv) 2)=_;rw [iV g,iV p,iV B];show some (if(u.n==1)=true then vv j else vv f)=_;cases(u.n==1) <;> rfl
  cases F:(u.n==1) with
  | true=>rw [F] at C ee;refine⟨j,true,⟨T.ad 2 j.ec (bL j.cs),ai ?_,rfl⟩,(o.ok j (Wx p)).le (by omega),ee⟩;rw [K1];simp only [aI,aL,aV,fA,eP,fB,gA,bK,aO,C,aR,dQ,if_pos E,iG p,dv]
  | false=>rw [F] at C ee;refine⟨f,true,⟨T.ad 2 f.ec (bL f.cs),ai ?_,rfl⟩,(o.ok f (Wx B)).le (by omega),ee⟩;rw [K1];simp only [aI,aL,aV,fA,eP,fB,gA,bK,aO,C,aX,dQ,if_pos Q,iG B,dv]
 .have J:=o.k2 (.inr (.inl rfl));have g:=A (i:=0) (by omega);have p:=A (i:=1) (by omega);generalize vs.getD 0 (iz false)=u at g;generalize vs.getD 1 (iz false)=j at p;have D:(0:Int)<=0/\(0:Int) < (vs.length:Int):=by omega
  have E:(0:Int)<=1/\(1:Int) < (vs.length:Int):=by omega
  refine o8 (z:=u.n==j.n && u.d==j.d) ?_ ?_
  .rw [VJ];simp only [aI,aL,aV,fA,eP,fB,gA,bK,aO,cu,dQ,if_pos D,if_pos E,iG g,iG p,XF,oX]
  .show some (bM ((cv (vs.map vv) 0).n== (cv (vs.map vv) 1).n && (cv (vs.map vv) 0).d== (cv (vs.map vv) 1).d))=_;rw [iV g,iV p];rfl
 .obtain⟨V,k,m,R,M,f3,N,S⟩:=o.k9 rfl;have X:Or (.call 39) [AG a,AV.t (T.str nm)] []=some [ti (k:Int)]:=(ur V).trans (by rw [R]);have D: 0<=(k:Int)/\(k:Int) < (ms.length:Int):=by have:=(Wm.1 M).1;omega
  have W:=o.qb;obtain⟨c,G,H⟩:=(T3 (er:=m.er) (ev:=ev) (m:=m) (vs:=vs) f3 o.l (λe L=>⟨(N e L).1,(N e L).2.le (by omega)⟩) (S.le (by omega))).a;have hw:gR q (fu m.rs m.re (vs.map λv=>v.n)):=Dr (P:=λv=>gR q v) S λe L=>(N e L).2;refine⟨fu m.rs m.re (vs.map λv=>v.n),true,⟨_,ai ?_,(rfl:(T.ad 2 (fu m.rs m.re (vs.map λv=>v.n)).ec (bL (fu m.rs m.re (vs.map λv=>v.n)).cs)).aQ 2=_)⟩,hw.le (by omega), ?_⟩
  .rw [VK];simp only [aI,aL,aV,fA,eP,fB,gA,bK,aO,X,l8,if_pos D,vD M,rV,dv,G,H]
  .show some (Wf a.ds ms nm ((vs.map vv).map λv=>v.n))=_;rw [Ib];unfold Wf;rw [R,WW,Wp,M];rfl
 .refine⟨⟨true,n,d,true,[],0⟩,true,⟨T.aB true,ai ?_,rfl⟩,⟨Xr _,λ_=>rfl⟩,rfl⟩;rw [Vl]
 .obtain⟨w,z,G,H⟩:=J2 (ev:=ev) (vs:=vs) (x:=⟨11,ek,ks,n,d,nm⟩) o.l (λh=>by simp at h);refine⟨⟨true,w.n,w.d,true,[],0⟩,z,⟨T.ad 2 true [],ai ?_,rfl⟩,⟨Xr _,λ_=>rfl⟩, ?_⟩
  .rw [Vm];simp only [aI,aL,aV,fA,eP,fB,gA,tn,bK,bK,aO,cz,show Or (.call 89) [AV.agg [I 11,AV.t (T.ad 1 ek (enc ks)),I n,I d,AV.t (T.str nm)],VL ev vs] []=_ from G]
  .show wA 11 n d (vs.map vv)=_;rw [H];cases z <;> rfl
 .obtain⟨w,z,G,H⟩:=J2 (ev:=ev) (vs:=vs) (x:=⟨12,ek,ks,n,d,nm⟩) o.l (λ_=>o.k1 (.inr rfl));refine⟨⟨true,w.n,w.d,true,[],0⟩,z,⟨T.ad 2 true [],ai ?_,rfl⟩,⟨Xr _,λ_=>rfl⟩, ?_⟩
  .rw [Vn];simp only [aI,aL,aV,fA,eP,fB,gA,tn,bK,bK,aO,cz,show Or (.call 89) [AV.agg [I 12,AV.t (T.ad 1 ek (enc ks)),I n,I d,AV.t (T.str nm)],VL ev vs] []=_ from G]
  .show wA 12 n d (vs.map vv)=_;rw [H];cases z <;> rfl
 .have J:=o.k2 (.inr (.inr (.inl rfl)));have g:=A (i:=0) (by omega);have p:=A (i:=1) (by omega);generalize vs.getD 0 (iz false)=u at g;generalize vs.getD 1 (iz false)=j at p;have D:(0:Int)<=0/\(0:Int) < (vs.length:Int):=by omega
  have E:(0:Int)<=1/\(1:Int) < (vs.length:Int):=by omega
  obtain⟨c,t,K⟩:=HX u.n u.d j.n j.d;refine o8 (z:=rT u.n u.d j.n j.d) ?_ ?_
  .rw [Vo];simp only [aI,aL,aV,fA,eP,fB,gA,bK,aO,cu,dQ,if_pos D,if_pos E,iG g,iG p,K,oX]
  .show some (bM (rT (cv (vs.map vv) 0).n (cv (vs.map vv) 0).d (cv (vs.map vv) 1).n (cv (vs.map vv) 1).d))=_;rw [iV g,iV p];rfl
 .have J:=o.k2 (.inr (.inr (.inr (.inl rfl))));have g:=A (i:=0) (by omega);have p:=A (i:=1) (by omega);generalize vs.getD 0 (iz false)=u at g;generalize vs.getD 1 (iz false)=j at p;have D:(0:Int)<=0/\(0:Int) < (vs.length:Int):=by omega
  have E:(0:Int)<=1/\(1:Int) < (vs.length:Int):=by omega
  obtain⟨c,t,K⟩:=HX j.n j.d u.n u.d;refine o8 (z:= !rT j.n j.d u.n u.d) ?_ ?_
  .rw [Vp];simp only [aI,aL,aV,fA,eP,fB,gA,bK,aO,cu,dQ,if_pos D,if_pos E,iG g,iG p,K,oX]
  .show some (bM (!rT (cv (vs.map vv) 1).n (cv (vs.map vv) 1).d (cv (vs.map vv) 0).n (cv (vs.map vv) 0).d))=_;rw [iV g,iV p];rfl
 .exact pd ⟨by simp,by simp⟩ o.l (by rw [Vq];simp only [dQ])
 .exact pd ⟨by simp,by simp⟩ o.l (by rw [Vr];simp only [dQ])
 .exact pd ⟨by simp,by simp⟩ o.l (by rw [Vs];simp only [dQ])
 .exact pd ⟨by simp,by simp⟩ o.l (by rw [Vt];simp only [dQ])
 .exact pd ⟨by simp,by simp⟩ o.l (by rw [Vu];simp only [dQ])
 .exact pd ⟨by simp,by simp⟩ o.l (by rw [Vx];simp only [dQ])
 .exact pd ⟨by simp,by simp⟩ o.l (by rw [Vy];simp only [dQ])
 .exact pd ⟨by simp,by simp⟩ o.l (by rw [Vz];simp only [dQ])
 .exact pd ⟨by simp,by simp⟩ o.l (by rw [VA];simp only [dQ])
 .have J:=o.k2 (.inr (.inr (.inr (.inr rfl))));have g:=A (i:=0) (by omega);have p:=A (i:=1) (by omega);generalize vs.getD 0 (iz false)=u at g;generalize vs.getD 1 (iz false)=j at p;have D:(0:Int)<=0/\(0:Int) < (vs.length:Int):=by omega
  have E:(0:Int)<=1/\(1:Int) < (vs.length:Int):=by omega
  have F:=o.ok u (Wx g);have W:=o.qb;have Y:=T5 (v:=u) (x:=j.n) (by have:=F.l;omega);refine⟨⟨true,rK u.r j.n u.cs,1,true,[],0⟩,true,⟨T.ad 2 true [],ai ?_,rfl⟩,⟨Xr _,λ_=>rfl⟩, ?_⟩
  .rw [VB];simp only [aI,aL,aV,fA,eP,fB,gA,bK,aO,cz,dQ,if_pos D,if_pos E,iG g,iG p,dv,Y,J3]
  .show some (fK (rK (cv (vs.map vv) 0).r (cv (vs.map vv) 1).n (cv (vs.map vv) 0).cs))=_;rw [iV g,iV p];rfl
 .have J:=o.k3 (.inr rfl);have g:=A (i:=0) (by omega);have p:=A (i:=1) (by omega);have B:=A (i:=2) (by omega);generalize vs.getD 0 (iz false)=u at g;generalize vs.getD 1 (iz false)=j at p;generalize vs.getD 2 (iz false)=f at B;have D:(0:Int)<=0/\(0:Int) < (vs.length:Int):=by omega
  have E:(0:Int)<=1/\(1:Int) < (vs.length:Int):=by omega
  have Q:(0:Int)<=2/\(2:Int) < (vs.length:Int):=by omega
  have F:=o.ok u (Wx g);have W:=o.qb;obtain⟨c,Z,U⟩:=T6 (v:=u) (x:=j.n) (y:=f.n) (by have:=F.l;omega);have hlen:=Jf j.n f.n u.cs (f.n==u.r);refine⟨⟨false,0,0,(fe j.n f.n (f.n==u.r) u.cs).isEmpty,fe j.n f.n (f.n==u.r) u.cs,u.r⟩,true,⟨T.ad 2 (fe j.n f.n (f.n==u.r) u.cs).isEmpty (bL (fe j.n f.n (f.n==u.r) u.cs)),ai ?_,rfl⟩,⟨?_,λh=>XN.1 h⟩, ?_⟩
  .rw [VD];simp only [aI,aL,aV,fA,eP,fB,gA,bK,aO,dQ,if_pos D,if_pos E,if_pos Q,iG g,iG p,iG B,dv,Z,U]
  .have G:=F.l;have H:(bif (f.n==u.r) then 0 else 1)<=1:=by cases(f.n==u.r) <;> decide
   show(fe j.n f.n (f.n==u.r) u.cs).length<=q+1;omega
  .show some (⟨0,0,fe (cv (vs.map vv) 1).n (cv (vs.map vv) 2).n ((cv (vs.map vv) 2).n== (cv (vs.map vv) 0).r) (cv (vs.map vv) 0).cs,(cv (vs.map vv) 0).r⟩:Vv)=_;rw [iV g,iV p,iV B];rfl
end
end Go.Aev.Gen
