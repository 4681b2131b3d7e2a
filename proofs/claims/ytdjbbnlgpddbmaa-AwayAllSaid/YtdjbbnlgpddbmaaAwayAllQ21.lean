import Derived.Test.YtdjbbnlgpddbmaaAwayAllQ20
import Derived.Test.YtdjbbnlgpddbmaaAwayAllQ18
import Derived.Test.YtdjbbnlgpddbmaaAwayAllQ6
import Derived.Test.YtdjbbnlgpddbmaaAwayAllQ15
import Derived.Test.YtdjbbnlgpddbmaaAwayAllQ5
set_option linter.all false
namespace Go.Aev.Aa
open Go Go.Aev Go.Aev.Gen Go.Aev.Wd Go.IntKind
open Go.Aev.Wd.Lg hiding bo z5
open Go.Aev.Tb hiding sg
def pJ(n:Nat)(rows:List R):Prop:= ∃xs:List Rat,xs.length=n/\∀r∈rows,HR r (b9 r.of xs)
theorem D0:∀(of:List Int) (xs:List Rat),b9 of xs=aX of xs
 | [],xs=>by rw [vu,Gen.iQ]
 | c::of,[]=>rfl
 | c::of,x::xs=>by show(c:Rat) * x+b9 of xs=x * (c:Rat)+aX of xs;rw [D0 of xs,Rat.mul_comm]
theorem wh{r:R}(hk:r.kd=1\/r.kd=2\/r.kd=3)(xs:List Rat):dy (bo r) xs↔HR r (b9 r.of xs):=by
 unfold dy HR;rw [D0];show(aX r.of xs < (r.tv:Rat)/\r.kd≠3)\/(aX r.of xs= (r.tv:Rat)/\r.kd≠2)↔_;generalize aX r.of xs=q;constructor
 .rintro(⟨h,c⟩ | ⟨h,b⟩)
  .exact⟨Tn h,λa=>absurd a c,λ_=>h⟩
  .exact⟨by rw [h];exact To,λ_=>h,λa=>absurd a b⟩
 .rintro⟨h1,c,b⟩;rcases Vg.1 h1 with h | h
  .by_cases k:r.kd=3
   .exact .inr ⟨c k,by omega⟩
   .exact .inl ⟨h,k⟩
  .by_cases k:r.kd=2
   .exact .inl ⟨b k,by omega⟩
   .exact .inr ⟨h,k⟩
theorem wU(n:Nat)(l:List Int)(j:Nat)(h:l.getD j 0=0):(cE n l).getD j 0=0:=by
 unfold cE;rw [RO] at h⊢;rw [List.getElem?_append];split
 .exact h
 .rw [TF];split <;> rfl
theorem GQ{l:List Int}{j:Nat}(h:l.getD j 0=0):(cZ l).getD j 0=0:=by unfold cZ;rw [sH (by decide),h];rfl
theorem Jq{n k j:Nat}:∀{rows:List R} {i:Nat},(∀r∈rows,r.of.getD j 0=0)->∀b∈cA n k rows i,b.of.getD j 0=0
 | [],_,_,b,hb=>by cases hb
 | r::rows,i,h,b,hb=>by
  rw [cA] at hb;have a:=h r RL;rcases RX.1 hb with hb | hb
  .unfold fM at hb;split at hb
   .rw [RP.1 hb];exact wU n _ j a
   .split at hb
    .rw [RP.1 hb];exact GQ (wU n _ j a)
    .cases hb
  .exact Jq (λr hr=>h r (RM _ hr)) b hb
theorem DY{n k j:Nat}:∀{rows:List R} {i:Nat},(∀r∈rows,r.of.getD j 0=0)->∀b∈cD n k rows i,b.of.getD j 0=0
 | [],_,_,b,hb=>by cases hb
 | r::rows,i,h,b,hb=>by
  rw [cD] at hb;have a:=h r RL;rcases RX.1 hb with hb | hb
  .unfold ft at hb;split at hb
   .rw [RP.1 hb];exact wU n _ j a
   .split at hb
    .rw [RP.1 hb];exact GQ (wU n _ j a)
    .cases hb
  .exact DY (λr hr=>h r (RM _ hr)) b hb
theorem OL{a b:Bn}{k j:Nat}(c:a.of.getD j 0=0)(hb:b.of.getD j 0=0):(cC a b k).1.getD j 0=0:=by
 have f:(cL a b k).getD j 0=0:=by
  unfold cL;rw [RO] at c hb⊢;rw [List.getElem?_zipWith];cases h1:a.of[j]? with
  | none=>rfl
  | some x=>
   cases g:b.of[j]? with
   | none=>rfl
   | some y=>rw [h1] at c;rw [g] at hb;simp only [SJ] at c hb⊢;rw [c,hb,T5,T5];rfl
 by_cases hz:bz (cL a b k)= []
 .have e:(cC a b k).1= []:=by show bh _ (bz (cL a b k))= [];rw [hz];rfl
  rw [e];rfl
 .have d:sg (cB a b) (bz (cL a b k))=1:=by
   have:cB a b=1\/cB a b=2:=by unfold cB;split <;> simp
   unfold sg;rw [if_neg (by omega)]
  have e0:bY (cL a b k) (cB a b) (cT a b k)= (gZ (cL a b k) (cT a b k),dJ (cL a b k) (cB a b) (cT a b k)):=by rw [px hz,d];unfold gZ dJ cV;rw [if_neg hz];simp
  have:=xK (kd:=cB a b) (tv:=cT a b k) f;rw [e0] at this;exact this
theorem JY{n k j:Nat}{rows:List R}(h:∀r∈rows,r.of.getD j 0=0):∀c∈(gP n k rows).2,c.1.getD j 0=0:=
 yM (P:=λc=>c.1.getD j 0=0) (λr hr _=>xK (h r hr)) λa d b hb _=>OL (Jq h a d) (DY h b hb)
theorem sI(f:Bn->Rat):∀(u:Bn) (us:List Bn),∃m∈u::us,∀a∈u::us,f m<=f a
 | u,[]=>⟨u,RL,λa h=>by rw [RP.1 h];exact To⟩
 | u,w::us=>by
  obtain⟨m,h1,c⟩:=sI f w us;by_cases h:f u<=f m
  .refine⟨u,RL,λa b=> ?_⟩;rcases RV.1 b with rfl | b
   .exact To
   .exact Rat.le_trans h (c a b)
  .refine⟨m,RM _ h1,λa b=> ?_⟩;rcases RV.1 b with rfl | b
   .exact Tn (Rat.not_le.1 h)
   .exact c a b
theorem choose(f:Bn->Rat):∀(us c:List Bn),(∀a∈us,∀b∈c,f b<=f a/\((a.less || b.less)=true->f b < f a))->
  ∃v,(∀a∈us,v<=f a/\(a.less=true->v < f a))/\∀b∈c,f b<=v/\(b.less=true->f b < v)
 | [],[],_=>⟨0,(λa h=>by cases h),λa h=>by cases h⟩
 | u::us,[],_=>by obtain⟨m,_,g⟩:=sI f u us;refine⟨f m - 1,λa h=> ?_,λa h=>by cases h⟩;have:=g a h;exact⟨by grind,λ_=>by grind⟩
 | [],d::c,_=>by obtain⟨m,_,g⟩:=sI (λb=> -f b) d c;refine⟨f m+1,(λa h=>by cases h),λa h=> ?_⟩;have:=g a h;exact⟨by grind,λ_=>by grind⟩
 | u::us,d::c,j=>by
  obtain⟨m,h1,g⟩:=sI f u us;obtain⟨M,k,k2⟩:=sI (λb=> -f b) d c;have hm:=j m h1 M k;by_cases h:f M < f m
  .have e:(f M+f m) / 2 * 2=f M+f m:=by
    have:=UP (2:Rat) (by decide);rw [SF];grind
   generalize (f M+f m) / 2=v at e;refine⟨v,λa i=> ?_,λb hb=> ?_⟩
   .have:=g a i;exact⟨by grind,λ_=>by grind⟩
   .have:=k2 b hb;exact⟨by grind,λ_=>by grind⟩
  .have e:f M=f m:=Wl hm.1 (VZ.1 h);refine⟨f m,λa i=>⟨g a i,λhl=> ?_⟩,λb hb=>⟨?_,λhl=> ?_⟩⟩
   .have:=(j a i M k).2 (by rw [hl];rfl);rw [<-e];exact this
   .have:=k2 b hb;grind
   .exact(j m h1 b hb).2 (by rw [hl,Bool.or_true])
theorem back{n k:Nat}{rows:List R}{X:List Rat}(f:X[k]? =some 0)(hk:k < n)(hr:∀r∈rows,cS n r)(p:(gP n k rows).1=0)(h:∀c∈(gP n k rows).2,dy c X):∃v,∀r∈rows,dy (bo r) (X.set k v):=by
 obtain⟨s,t⟩:=Hr (k:=k) (cD n k rows 0) (cA n k rows 0) (gr k rows) p;have i:=tH hk rows 0 hr;have e:=r9 hk rows 0 hr;obtain⟨v,m,o⟩:=choose (bv k X) (cA n k rows 0) (cD n k rows 0) (λa d b hb=>by
  by_cases l:a.dv=b.dv
  .have g:=Iq rows 0 a d b hb l;have q:=Oz (X:=X) g (i a d).iL;rw [q];refine⟨To,λhl=> ?_⟩;rw [g.2.1,g.2.2] at hl;cases hl
  .exact OM (i a d) (e b hb) (h _ (t a d b hb l)))
 refine⟨v,H0 rows 0 hr (λa d=>J5 f (i a d).iL (m a d).1 (m a d).2) (λb hb=>J4 f (e b hb).iL (o b hb).1 (o b hb).2) λr hm j=> ?_⟩;have h1:=(FZ (hr r hm).kd).1 (h _ (s _ (Fw rows r hm j)));unfold dy at h1⊢;have e:=sa v r.of X k 0 f;rw [j] at e;have hz:aX (bo r).1 (X.set k v)=aX (bo r).1 X:=by show aX r.of (X.set k v)=aX r.of X;have z0:((0:Int):Rat)=0:=rfl;rw [e,z0];grind
 rw [hz];exact h1
theorem one{n k:Nat}{rows:List R}(hn:n<=12)(hk:k < n)(hr:∀r∈rows,cS n r)(j:(gP n k rows).1=0){g:List R}(d:g.map bo= (gP n k rows).2):pJ n g↔pJ n rows:=by
 have e:∀r∈g,r.kd=1\/r.kd=2\/r.kd=3:=λr h=>(yN hn hk hr (bo r) (by rw [<-d];exact Ub h)).kd;constructor
 .rintro⟨xs,hl,h⟩;have m:xs[k]? =some (xs[k]'(by omega)):=RR _;obtain⟨v,hv⟩:=back (X:=xs.set k 0) (by rw [List.getElem?_set_self (by omega)]) hk hr j (by
   intro c b;have l:=(yN hn hk hr c b).gone;rw [<-d] at b;obtain⟨r,a,rfl⟩:=Si.1 b;have h1:=(wh (e r a) xs).2 (h r a);have f:=sa 0 (bo r).1 xs k _ m;rw [l] at f;have z0:((0:Int):Rat)=0:=rfl;rw [z0,Tm,U0] at f;unfold dy at h1⊢;rw [f];exact h1)
  exact⟨_,by simp [hl],λr h=>(wh (hr r h).kd _).1 (hv r h)⟩
 .rintro⟨xs,hl,h⟩;refine⟨xs,hl,λr a=>(wh (e r a) xs).1 ?_⟩;exact JZ hk hr (λq i=>(wh (hr q i).kd xs).2 (h q i)) (bo r) (by rw [<-d];exact Ub a)
theorem D1{n:Nat}:∀{of:List Int} (xs:List Rat),(∀j,j < of.length->of.getD j 0=0)->b9 of xs=0
 | [],xs,_=>vu xs
 | c::of,[],_=>rfl
 | c::of,x::xs,h=>by have a:c=0:=h 0 (by simp);subst a;show((0:Int):Rat) * x+b9 of xs=0;have z0:((0:Int):Rat)=0:=rfl;rw [D1 (n:=n) xs λj b=>by simpa using h (j+1) (by simpa using b),z0];grind
theorem left{n:Nat}{rows:List R}(hr:∀r∈rows,cS n r)(b:∀j,j < n->∀r∈rows,r.of.getD j 0=0){xs:List Rat}(hl:xs.length=n):(rows.all λr=>jU r (b9 r.of xs))=true↔pJ n rows:=by
 have hz:∀r∈rows,∀a,b9 r.of a=0:=λr h a=>D1 (n:=n) a λj c=>b j (by have:=(hr r h).len;omega) r h;rw [R7];constructor
 .intro h;exact⟨xs,hl,λr hm=>(wg (hr r hm).kd _).1 (h r hm)⟩
 .rintro⟨a,_,h⟩ r hm;refine(wg (hr r hm).kd _).2 ?_;rw [hz r hm,<-hz r hm a];exact h r hm
theorem aN{n:Nat}{rows:List R}(ro:eM n rows):∃(s c:Int) (x y:T),xx n rows 2000= [ti s,x,y,ti c,ti 0]/\(∃b l,T.aM 2 x=some (b,l))/\(∃b l,T.aM 2 y=some (b,l))/\
  (c=0->s=3\/(s=1/\pJ n rows)\/(s=2/\¬pJ n rows)):=by
 have a:∃b l,T.aM 2 (T.aL true)=some (b,l):=⟨_,_,cn 2 true⟩;have o:∀l,∃b u,T.aM 2 (lF l)=some (b,u):=λl=>⟨_,_,o8 2 _ _⟩;have d:=GU ro;have m:=FL ro 2000 d;have f:=MU ro 2000 (ei n rows) d;have k:=λl=>MS 2000 (ei n rows) l d;unfold xx;generalize bW n rows true 2000 (ei n rows)=r1 at m f k⊢;obtain⟨no,done,v⟩:=r1;simp only at m f k;cases done with
 | false=>exact⟨3,0,_,_,rfl,a,a,λ_=> .inl rfl⟩
 | true=>
  cases no with
  | some l=>
   simp only;by_cases g:pU l=true
   .rw [if_pos g];refine⟨2,0,_,_,rfl,a,o _,λ_=> .inr (.inr ⟨rfl, ?_⟩)⟩;obtain⟨T,p⟩:=k l rfl;rintro⟨xs,hl,h⟩;exact Pa ro p hl h
   .rw [if_neg g];exact⟨0,10,_,_,rfl,a,a,λh=>absurd h (by decide)⟩
  | none=>
   simp only;by_cases g:pU (kV n rows v.val)=true
   .rw [if_pos g];refine⟨1,0,_,_,rfl,o _,a,λ_=> .inr (.inl ⟨rfl, ?_⟩)⟩;obtain⟨y,hy,q⟩:=Ok m.ok (λj t=>ro.kd _ (gJ t)) (f rfl rfl);refine⟨(List.range n).map y,by simp,λr hr=> ?_⟩;obtain⟨i,hi,e⟩:=TN hr;have er:Lg.rowAt rows i=r:=by unfold Lg.rowAt;rw [RO,RR hi];exact e
    have:=q i hi;rw [<-er,Pp ro hy hi];exact this
   .rw [if_neg g];exact⟨0,10,_,_,rfl,a,a,λh=>absurd h (by decide)⟩
open Go Go.Aev Go.Aev.Gen Go.IntKind
noncomputable abbrev uy:Key:=aW aq 5 true 5 [(0,none),(1,none),(5,none),(18,none),(19,none)] (0,0)
noncomputable abbrev ux:Key:=aW aq 5 true 14 [(0,none),(5,none),(9,none),(37,none),(38,none)] (0,0)
noncomputable abbrev yu:Key:=aW aq 5 false 18 [(0,none),(5,none),(9,some 999999)] (0,0)
noncomputable abbrev uh:Key:=aW aq 32 true 2 [(0,none),(1,none),(7,none),(8,none)] (0,0)
theorem e3(O:az)(er:Bool)(r:List (List T))(n:Int):aD aq ann O (Key.call 3) [AV.t (T.ae 3 er r),I n] []=
 (aa none (O (Key.call 4) [] []) λl=>aa none l.head? λx=>aa none x.bool? λb=>bif !b then some [T.bool false] else aa none (O (Key.call 5) [AV.t (T.ae 3 er r),I n] []) λl=>aa none l.head? λx=>
 aa none x.bool? λb=>aa none l.tail.head? λx=>aa none (T.int? i64 x) λa=>aa none l.tail.tail.head? λx=>aa none (T.int? i64 x) λd=>bif !a== (0:Int) then some [T.bool
 !b] else aa none (O (Key.call 6) [AV.t (T.ae 3 er r),I n,I (2000:Int)] []) λl=>aa none l.head? λx=>aa none (T.int? i64 x) λn=>aa none l.tail.head? λx=>aa none (T.aM 2 x) λp=>
 aa none l.tail.tail.head? λx=>aa none (T.aM 2 x) λp=>aa none l.tail.tail.tail.head? λx=>aa none (T.int? i64 x) λc=>aa none l.tail.tail.tail.tail.head? λx=>aa none (T.int?
 i64 x) λe=>bif bif !c== (0:Int) then true else n== (3:Int) then some [T.bool true] else some [T.bool (b== (n== (1:Int)))]):=by kernel_rfl
theorem e5(O:az)(er:Bool)(r:List (List T))(n:Int):aD aq ann O (Key.call 5) [AV.t (T.ae 3 er r),I n] []=
 (aa none (O (Key.call 10) [AV.t (T.ae 3 er r),I n] []) λl=>aa none l.head? λx=>aa none (T.int? i64 x) λa=>aa none l.tail.head? λx=>aa none (T.int? i64 x) λb=>bif !a==
 (0:Int) then some [T.bool false,T.int i64 a,T.int i64 b] else O uy [AV.t (T.ae 3 er r),I n,AV.ref (Id.c 0) 0,I n,I (0:Int)] [ab.box [I (0:Int),I (0:Int)]]):=by kernel_rfl
theorem zz(O:az)(f:Bool)(h:List (List T))(d:Int)(g:Int)(e:Int)(a:Int)(b:Int):aD aq ann O uy [(AV.t (T.ae 3 f h)),(I d),(AV.ref (Id.c 0) 0),(I g),(I e)] [(ab.box [(I a),(I b)])]=
 (bif decide (e < g) then aa none (O (Key.call 7) [AV.t (T.ae 3 f h),I d,I e] []) λl=>aa none l.head? λx=>aa none (T.aM 3 x) λp=>aa none l.tail.head? λx=>aa none (T.int? i64
 x) λn=>aa none l.tail.tail.head? λx=>aa none (T.int? i64 x) λi=>bif !n== (0:Int) then some [T.bool false,T.int i64 n,T.int i64 i] else O uy [AV.t (T.ae 3 p.fst p.snd),
 I d,AV.ref (Id.c 0) 0,I g,I (i64.wrap (e+ (1:Int)))] [ab.box [I a,I b]] else aa none (bJ d d) λx=>O ux [AV.t (T.ae 3 f h),AV.ref (Id.c 0) 0,AV.ref (Id.c 1) 0,AV.t (T.int
 i64 (↑(List.replicate d.toNat [T.int i64 (0:Int),T.int i64 (0:Int)]).length:Int)),I (0:Int)] [ab.box [I a,I b],ab.box [AV.own (Id.c 2)],ab.sl false 2 false (List.replicate
 d.toNat [T.int i64 (0:Int),T.int i64 (0:Int)])]):=by kernel_rfl
theorem EC(O:az)(f:Bool)(i:List (List T))(g:Int)(a:Int)(b:Int)(d:Int)(e:Bool)(h:List (List T)):aD aq ann O ux [(AV.t (T.ae 3 f i)),(AV.ref (Id.c 0) 0),(AV.ref (Id.c 1) 0),(I g),(I a)] [(ab.box [(I b),(I d)]),(ab.box [(AV.own (Id.c 2))]),(ab.sl false 2 e h)]=
 (bif decide (a < g) then aa none (if(0:Int)<=a/\a < (↑h.length:Int) then some () else none) λx=>aa none (bt a.toNat 1 [T.int i64 (1:Int)] h) λl=>O ux [AV.t (T.ae 3 f i),
 AV.ref (Id.c 0) 0,AV.ref (Id.c 1) 0,I g,I (i64.wrap (a+ (1:Int)))] [ab.box [I b,I d],ab.box [AV.own (Id.c 2)],ab.sl false 2 e l] else O yu [AV.t (T.ae 3 f i),AV.ref (Id.c 0) 0,
 AV.ref (Id.c 1) 0] [ab.box [I b,I d],ab.box [AV.t (T.ae 2 e h)]]):=by kernel_rfl
theorem LI(O:az)(d:Bool)(h:List (List T))(e:Int)(f:Int)(a:Bool)(g:List (List T)):aD aq ann O yu [(AV.t (T.ae 3 d h)),(AV.ref (Id.c 0) 0),(AV.ref (Id.c 1) 0)] [(ab.box [(I e),(I f)]),(ab.box [(AV.t (T.ae 2 a g))])]=
 (aa none (O (Key.call 11) [AV.t (T.ae 3 d h),AV.fn 12 [] [AV.t (T.ptr [T.ae 2 a g])]] []) λl=>aa none l.head? λx=>aa none x.bool? λb=>some [T.bool !b,T.int i64 (0:Int),T.int
 i64 (0:Int)]):=by kernel_rfl
theorem KY(O:az)(c:Bool)(d:List (List T))(a:Bool)(b:List (List T)):aD aq ann O (Key.call 11) [(AV.t (T.ae 3 c d)),(AV.fn 12 [] [(AV.t (T.ptr [(T.ae 2 a b)]))])] []=
 (aa none (O (Key.call 32) [AV.t (T.ae 3 c d),AV.fn 12 [] [AV.t (T.ptr [T.ae 2 a b])]] []) λl=>aa none l.head? λx=>aa none (T.int? i64 x) λn=>some [T.bool (decide (n>=(0:Int)))]):=by kernel_rfl
theorem Lm(O:az)(c:Bool)(d:List (List T))(a:Bool)(b:List (List T)):aD aq ann O (Key.call 32) [(AV.t (T.ae 3 c d)),(AV.fn 12 [] [(AV.t (T.ptr [(T.ae 2 a b)]))])] []=
 (O uh [AV.t (T.ae 3 c d),AV.fn 12 [] [AV.t (T.ptr [T.ae 2 a b])],I (↑d.length:Int),I (0:Int)] []):=by kernel_rfl
theorem zt(O:az)(f:Bool)(e:List (List T))(a:Bool)(d:List (List T))(g:Int)(c:Int):aD aq ann O uh [(AV.t (T.ae 3 f e)),(AV.fn 12 [] [(AV.t (T.ptr [(T.ae 2 a d)]))]),(I g),(I c)] []=
 (bif decide (c < g) then aa none (if(0:Int)<=c/\c < (↑e.length:Int) then some () else none) λx=>aa none e[c.toNat]? λl=>aa none l.head? λx=>aa none l.tail.head? λi=>aa none
 l.tail.tail.head? λj=>aa none (T.aM 1 x) λp=>aa none (T.int? i64 i) λn=>aa none (T.int? i64 j) λh=>aa none (O (Key.call 12) [AV.agg [AV.t (T.ae 1 p.fst p.snd),I n,I
 h],AV.t (T.ptr [T.ae 2 a d])] []) λl=>aa none l.head? λx=>aa none x.bool? λb=>bif b then some [T.int i64 c] else O uh [AV.t (T.ae 3 f e),AV.fn 12 [] [AV.t (T.ptr [T.ae 2 a
 d])],I g,I (i64.wrap (c+ (1:Int)))] [] else some [T.int i64 (-1:Int)]):=by kernel_rfl
theorem K4(O:az)(a:Bool)(c:List (List T))(d:Int)(e:Int)(f:Bool)(g:List (List T)):aD aq ann O (Key.call 12) [(AV.agg [(AV.t (T.ae 1 a c)),(I d),(I e)]),(AV.t (T.ptr [(T.ae 2 f g)]))] []=
 (aa none (O (Key.call 13) [AV.agg [AV.t (T.ae 1 a c),I d,I e],AV.t (T.ae 2 f g)] []) λl=>aa none l.head? λx=>aa none x.bool? λb=>aa none l.tail.head? λx=>aa none (T.int?
 i64 x) λn=>aa none l.tail.tail.head? λx=>aa none (T.int? i64 x) λn=>some [T.bool !b]):=by kernel_rfl
end Go.Aev.Aa
namespace Go.Aev.Wd.Lg
open Go Go.Aev Go.Aev.Gen Go.Aev.Wd Go.Proofs Go.IntKind
set_option maxRecDepth 1000000 in
theorem wu{n:Nat}{ts:List T}(h:Wt aq (n+1) 3 ts):∃m:Int,ts= [ti m]:=by have c:aq.underlying 3=some (.int .i64):=Try.underlying3;have b:=@Rs aq n 3 ts .i64 c h;obtain⟨m,a,_⟩:=b;exact⟨m,a⟩
theorem Kw:aq.cellsOf 3=1:=by kernel_rfl
theorem Kx:aq.cellsOf 36=3:=by kernel_rfl
theorem Ke:aq.bytesOf 36=40:=by kernel_rfl
set_option maxRecDepth 1000000 in
theorem Pq{n:Nat}{ts:List T}(h:Wt aq (n+3) 36 ts):∃j:{r:R // r.e=true->r.of= []},ts=eR j.1:=by have s:=(Try.underlying36:aq.underlying 36=_);have h1:=Rv s h;obtain⟨a,b,rfl,k,c,d,rfl,m,e,f,rfl,o,rfl⟩:=h1;have i:=(Try.underlying34:aq.underlying 34=_);obtain⟨b,l,g,p,_⟩:=Rt (λz:Int=> [ti z]) i k (λcs q=>wu q);rw [Kw] at g;subst g;obtain⟨y,rfl⟩:=wu m;obtain⟨z,rfl⟩:=wu o;exact⟨⟨⟨b,l,y,z⟩,p⟩,rfl⟩
set_option maxRecDepth 1000000 in
theorem Pu{n:Nat}{a:AV}(h:(be aq 22=true/\∃l,Wt aq (n+4) 22 l/\a= .agg (l.map .t))\/(be aq 22=false/\∃x,Wt aq (n+4) 22 [x]/\a= .t x)):∃e l,a=LR e l/\(∀r∈l,r.e=true->r.of= [])/\l.length * 40<=reachBytes:=by
 obtain⟨x,h1,rfl⟩:=C7 h (by kernel_rfl);have g:=(Try.underlying22:aq.underlying 22=_);obtain⟨b,l,c,_,_,d⟩:=Jz (λj:{r:R // r.e=true->r.of= []} =>eR j.1) g h1 (λcs f=>Pq f);rw [Kx] at c;rw [Ke] at d;simp only [TJ,and_true] at c;subst c;refine⟨b,l.map (·.1), ?_,λr hr=> ?_,by simpa using d⟩
 .simp only [LR,eF,List.map_map];rfl
 .obtain⟨j,_,rfl⟩:=Si.1 hr;exact j.2
set_option maxRecDepth 1000000 in
theorem Nc{n:Nat}{a:AV}(h:(be aq 3=true/\∃l,Wt aq (n+1) 3 l/\a= .agg (l.map .t))\/(be aq 3=false/\∃x,Wt aq (n+1) 3 [x]/\a= .t x)):∃m,a=I m:=by obtain⟨x,h1,rfl⟩:=C7 h (by kernel_rfl);obtain⟨m,b⟩:=wu h1;simp only [TJ,and_true] at b;subst b;exact⟨m,rfl⟩
end Go.Aev.Wd.Lg
namespace Go.Aev.Aa
open Go Go.Aev Go.Aev.Wd Go.IntKind
open Go.Aev.Gen hiding Fr eU LN
open Go.Aev.Wd.Lg hiding bo z5
open Go.Aev.Tb hiding sg
theorem qm:Or (.call 4) [] []=some [tb true]:=Hn (n:=60) (by kernel_rfl)
theorem Qs(r:R)(e:Bool)(l:List Fr)(hn:l.length<=12)(ok:cS l.length r)(b:∀x∈l,eU x):
  Or (.call 12) [AV.agg [ae r.e r.of,I r.kd,I r.tv],AV.t (T.ptr [T.ae 2 e (eZ l)])] []=some [tb (!(jU r (b9 r.of (l.map dI))))]:=by
 have a:=QY r e l hn ok b;refine an ?_;rw [K4];simp only [dG,aj,↓reduceIte,Int.reduceBEq,Int.reduceEq,GD,a]
theorem Qu(er:Bool)(rows:List R)(e:Bool)(l:List Fr)(hn:l.length<=12)(ok:∀r∈rows,cS l.length r)(j:∀x∈l,eU x)(hl:rows.length<=40):
  ∀(a:List R) (i:Nat),rows.drop i=a->∃z:Int,Or uh [LR er rows,AV.fn 12 [] [AV.t (T.ptr [T.ae 2 e (eZ l)])],I (rows.length:Int),I (i:Int)] []=some [ti z]/\(decide (z>=0)= !(a.all λr=>jU r (b9 r.of (l.map dI)))):=by
 intro a;induction a with
 | nil=>
  intro i h;have h1:¬(i:Int) < (rows.length:Int):=by have:=bU h;omega
  refine⟨-1,an ?_,by simp⟩;rw [zt];simp only [aj,↓reduceIte,Int.reduceBEq,Int.reduceEq,GD,h1]
 | cons r a k=>
  intro i h;obtain⟨d,o,g⟩:=bR h;have h1:(i:Int) < (rows.length:Int):=by omega
  have f: 0<=(i:Int):=by omega
  have c:=Qs r e l hn (ok r (RN d)) j;by_cases b:jU r (b9 r.of (l.map dI))=true
  .rw [b] at c;obtain⟨z,m,n⟩:=k (i+1) g;refine⟨z,an ?_,by rw [n];simp [b]⟩;rw [zt];simp only [aj,↓reduceIte,Int.reduceBEq,Int.reduceEq,GD,h1,f,and_self,cY,fT d,c,next i (by omega),Sl];exact m
  .rw [Vv] at b;rw [b] at c;refine⟨(i:Int),an ?_,by simp [b]⟩;rw [zt];simp only [aj,↓reduceIte,Int.reduceBEq,Int.reduceEq,GD,h1,f,and_self,cY,fT d,c,Sw]
theorem Qr(er:Bool)(rows:List R)(e:Bool)(l:List Fr)(hn:l.length<=12)(ok:∀r∈rows,cS l.length r)(b:∀x∈l,eU x)(hl:rows.length<=40):
  Or (.call 11) [LR er rows,AV.fn 12 [] [AV.t (T.ptr [T.ae 2 e (eZ l)])]] []=some [tb (!(rows.all λr=>jU r (b9 r.of (l.map dI))))]:=by
 obtain⟨z,c,d⟩:=Qu er rows e l hn ok b hl rows 0 rfl;have a:Or (.call 32) [LR er rows,AV.fn 12 [] [AV.t (T.ptr [T.ae 2 e (eZ l)])]] []=some [ti z]:=by refine an ?_;rw [Lm];simp only [cY];exact c
 refine an ?_;rw [KY];simp only [aj,↓reduceIte,Int.reduceBEq,Int.reduceEq,GD,a,d]
def zP(n i:Nat):List (List T):=List.replicate i [ti 0,ti 1] ++List.replicate (n - i) [ti 0,ti 0]
theorem Rx{n i:Nat}(h:i<=n):(zP n i).length=n:=by simp [zP];omega
theorem Ry{n i:Nat}(h:i < n):bt i 1 [ti 1] (zP n i)=some (zP n (i+1)):=by
 have e:n - i= (n - (i+1))+1:=by omega
 have g:(zP n i)[i]? =some [ti 0,ti 0]:=by unfold zP;rw [SK (by simp),S0,Uq,e,Sv];rfl
 have s:(zP n i).set i [ti 0,ti 1]=zP n (i+1):=by unfold zP;rw [List.set_append_right _ _ (by simp),S0,Uq,e,Sv,UK,U6 (n:=i),Sj];rfl
 unfold bt;rw [g];show(if 2<=2 then some ((zP n i).set i [ti 0,ti 1]) else none)=_;rw [if_pos (R3 2),s]
theorem Rw(n:Nat):zP n n=eZ (List.replicate n (0,1)):=by unfold zP eZ;rw [Uq,Tw,SN,VS]
theorem Qx{n:Nat}(hn:n<=12)(er:Bool)(rows:List R)(ok:∀r∈rows,cS n r)(hl:rows.length<=40):∀(d i:Nat),d+i=n->
  Or ux [LR er rows,r0,AV.ref (Id.c 1) 0,I (n:Int),I (i:Int)] [ab.box [I 0,I 0],ab.box [AV.own (Id.c 2)],ab.sl false 2 false (zP n i)]=
   some [tb (rows.all λr=>jU r (b9 r.of ((List.replicate n ((0,1):Fr)).map dI))),ti 0,ti 0]:=by
 intro d;induction d with
 | zero=>
  intro i f;obtain rfl:i=n:=by omega
  have h1:¬(i:Int) < (i:Int):=by omega
  have b:=Qr er rows false (List.replicate i ((0,1):Fr)) (by simpa using hn) (by simpa using ok) (λx g=>by rw [T1 g];decide) hl;refine an ?_;rw [EC,Rw]
  have j:Or yu [LR er rows,r0,AV.ref (Id.c 1) 0] [ab.box [I 0,I 0],ab.box [AV.t (T.ae 2 false (eZ (List.replicate i ((0,1):Fr))))]]=
    some [tb (rows.all λr=>jU r (b9 r.of ((List.replicate i ((0,1):Fr)).map dI))),ti 0,ti 0]:=by
   refine an ?_;rw [LI];simp only [aj,↓reduceIte,Int.reduceBEq,Int.reduceEq,GD,b,Bool.not_not]
  simp only [y6,h1,if_false];exact j
 | succ d h=>
  intro i f;have h1:(i:Int) < (n:Int):=by omega
  have e: 0<=(i:Int):=by omega
  have st:=Ry (n:=n) (i:=i) (by omega);have hi:(i:Int).toNat=i:=by omega
  have a:=h (i+1) (by omega);refine an ?_;rw [EC];simp only [aj,↓reduceIte,Int.reduceBEq,Int.reduceEq,GD,h1,e,and_self,Rx (n:=n) (i:=i) (by omega),hi,st,next i (by omega)];exact a
theorem Qw{n:Nat}(hn:n<=12):∀(d k:Nat) (rows:List R) (e:Bool),d+k=n->(∀r∈rows,cS n r)->rows.length<=40->(∀j,j < k->∀r∈rows,r.of.getD j 0=0)->
  ∃(b:Bool) (c a:Int),Or uy [LR e rows,I (n:Int),r0,I (n:Int),I (k:Int)] [ab.box [I 0,I 0]]=some [tb b,ti c,ti a]/\(c≠0->b=false)/\(c=0->(b=true↔pJ n rows)):=by
 intro d;induction d with
 | zero=>
  intro k rows e u ok hl l;obtain rfl:k=n:=by omega
  have h1:¬(k:Int) < (k:Int):=by omega
  have mk:bJ (k:Int) (k:Int)=some ():=by unfold bJ eH;rw [if_pos (by omega)]
  have key:=Qx hn e rows ok hl k 0 (by omega);have hz:zP k 0=List.replicate k [ti 0,ti 0]:=by unfold zP;rfl
  rw [hz] at key;refine⟨_,0,0, ?_,λh=>absurd rfl h,λ_=>left ok l (xs:=(List.replicate k ((0,1):Fr)).map dI) (by simp)⟩;refine an ?_;rw [zz];simp only [aj,↓reduceIte,Int.reduceBEq,Int.reduceEq,GD,h1,mk,Sr,S0];exact key
 | succ d v=>
  intro k rows e u ok hl l;have hk:k < n:=by omega
  have h1:(k:Int) < (n:Int):=by omega
  obtain⟨x,t,i,q1,s,g,w⟩:=PS rows e n k hn hk ok hl (Ky hn hk hl ok);by_cases f:(gP n k rows).1=0
  .rw [f] at q1;have gd:=yN hn hk ok;have q:∀r∈i,cS n r:=λr h=>MZ (gd (bo r) (by rw [<-g];exact Ub h)) (w r h);have p:i.length<=40:=by
    have:=J0 (n:=n) (k:=k) (rows:=rows) hl;rw [<-g,Ty] at this;exact this
   have B:∀j,j < k+1->∀r∈i,r.of.getD j 0=0:=λj C r h=>by
    have hm:bo r∈(gP n k rows).2:=by rw [<-g];exact Ub h
    by_cases o:j=k
    .rw [o];exact(gd (bo r) hm).gone
    .exact JY (l j (by omega)) (bo r) hm
   obtain⟨b,c,a,y,z,A⟩:=v (k+1) i t (by omega) q p B;refine⟨b,c,a, ?_,z,λh=>(A h).trans (one hn hk ok f g)⟩;refine an ?_;rw [zz];simp only [aj,↓reduceIte,Int.reduceBEq,Int.reduceEq,GD,h1,q1,s,next k (by omega)];exact y
  .have m:((gP n k rows).1==0)=false:=by simpa using f
   refine⟨false,(gP n k rows).1,0, ?_,λ_=>rfl,λh=>absurd h f⟩;refine an ?_;rw [zz];simp only [aj,↓reduceIte,Int.reduceBEq,Int.reduceEq,GD,h1,q1,s,f,m]
theorem law(rows:List R)(er:Bool)(n:Int)(hr:∀r∈rows,r.e=true->r.of= []):Or (.call 3) [LR er rows,I n] []=some [tb true]:=by
 have p:=Bt rows er n hr;by_cases h:(iO n rows).1=0
 .obtain⟨C,B,o,ok⟩:=Dy hr h;have hn:((n.toNat:Nat):Int)=n:=by omega
  obtain⟨b,c,a,u,A,v⟩:=Qw (n:=n.toNat) (by omega) n.toNat 0 rows er (by omega) ok o (λj w=>absurd w (by omega));rw [hn] at u;have f:Or (.call 5) [LR er rows,I n] []=some [tb b,ti c,ti a]:=by refine an ?_;rw [e5];simp only [aj,↓reduceIte,Int.reduceBEq,Int.reduceEq,GD,p,h];exact u
  by_cases g:c=0
  .subst g;obtain⟨s,t,x,y,q1,⟨_,_,l⟩,⟨_,_,m⟩,z⟩:=aN (H3 (n:=n.toNat) (by omega) o ok);have k:Or (.call 6) [LR er rows,I n,I 2000] []=some [ti s,x,y,ti t,ti 0]:=by
    have:=QL rows er n.toNat 2000 (by omega) hr (by rw [hn];exact h);rw [hn,q1] at this;exact this
   refine an ?_;rw [e3];by_cases i:t=0
   .subst i;rcases z rfl with rfl | ⟨rfl,q⟩ | ⟨rfl,q⟩
    .simp only [dG,aj,↓reduceIte,Int.reduceBEq,Int.reduceEq,GD,qm,f,k,l,m]
    .have hb:b=true:=(v rfl).2 q;subst hb;simp only [dG,aj,↓reduceIte,Int.reduceBEq,Int.reduceEq,GD,qm,f,k,l,m]
    .have hb:b=false:=by
      cases b with
      | false=>rfl
      | true=>exact absurd ((v rfl).1 rfl) q
     subst hb;simp only [dG,aj,↓reduceIte,Int.reduceBEq,Int.reduceEq,GD,qm,f,k,l,m]
   .have d:(t==0)=false:=by simpa using i
    simp only [dG,aj,↓reduceIte,Int.reduceBEq,Int.reduceEq,GD,qm,f,k,l,m,i,d]
  .have d:(c==0)=false:=by simpa using g
   have hb:=A g;subst hb;refine an ?_;rw [e3];simp only [dG,aj,↓reduceIte,Int.reduceBEq,Int.reduceEq,GD,qm,f,g,d,Sw]
 .have d:((iO n rows).1==0)=false:=by simpa using h
  have f:Or (.call 5) [LR er rows,I n] []=some [tb false,ti (iO n rows).1,ti (iO n rows).2]:=by refine an ?_;rw [e5];simp only [aj,↓reduceIte,Int.reduceBEq,Int.reduceEq,GD,p,h,d]
  refine an ?_;rw [e3];simp only [dG,aj,↓reduceIte,Int.reduceBEq,Int.reduceEq,GD,qm,f,h,d,Sw]
end Go.Aev.Aa
namespace Go.Aev.Gen
open Go Go.Aev Go.Aev.Wd Go.Aev.Wd.Lg Go.Proofs Go.IntKind
set_option maxRecDepth 1000000 in
theorem claim3(vs:List AV)(h:tK aq (19+1) Try.f3.params.toList vs):Or (.call 3) vs []=some [.bool true]:=by rw [Try.params3] at h;obtain⟨a,_,rfl,h1,b,_,rfl,c,rfl⟩:=h;obtain⟨e,q,rfl,d,_⟩:=Pu h1;obtain⟨n,rfl⟩:=Nc c;exact Aa.law q e n d
end Go.Aev.Gen
