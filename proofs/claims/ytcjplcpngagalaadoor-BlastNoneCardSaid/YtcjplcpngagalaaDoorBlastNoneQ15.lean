import Derived.Test.YtcjplcpngagalaaDoorBlastNoneQ8
import Derived.Test.YtcjplcpngagalaaDoorBlastNoneQ12
import Derived.Test.YtcjplcpngagalaaDoorBlastNoneQ14
set_option linter.all false
namespace Go.Aev.Gen
open Go Go.Aev Go.IntKind
noncomputable abbrev rJ:Key:=bY aq 4 true 11 [(4,none),(6,none),(8,none)] (0,0)
noncomputable abbrev rI:Key:=bY aq 12 true 4 [(0,none),(1,none),(5,none)] (0,0)
theorem d4(O:ay)(ed:Bool)(d:List (List T))(en:Bool)(nd:List (List T))(eh:Bool)(k:List (List T)):aA aq ann O (Key.call 4) [AV.agg [AV.t (T.ad 3 ed d),AV.t (T.ad 5 en nd),AV.t (T.ad 1 eh k)]] []=
 (aa none (O (Key.call 5) [] []) λl=>aa none l.head? λx=>aa none x.bool? λb=>bif !b then some [T.bool false] else aa none (O (Key.call 9) [AV.agg [AV.t (T.ad 3 ed d),AV.t (T.ad 5 en nd),AV.t (T.ad 1
 eh k)]] []) λl=>aa none l.head? λx=>aa none (T.au 3 x) λp=>aa none l.tail.head? λx=>aa none (T.au 5 x) λa=>aa none l.tail.tail.head? λx=>aa none (T.au 1 x) λg=>aa none
 (List.drop 3 l).head? λx=>aa none (T.int? i64 x) λn=>aa none (List.drop 3 l).tail.head? λx=>aa none (T.int? i64 x) λm=>bif !n== (0:Int) then aa none (O (Key.call 10) [AV.agg
 [AV.t (T.ad 3 p.fst p.snd),AV.t (T.ad 5 a.fst a.snd),AV.t (T.ad 1 g.fst g.snd)]] []) λl=>aa none l.head? λx=>aa none x.bool? λb=>some [T.bool b] else aa none (O (Key.call 9) [AV.agg [AV.t
 (T.ad 3 p.fst p.snd),AV.t (T.ad 5 a.fst a.snd),AV.t (T.ad 1 g.fst g.snd)]] []) λl=>aa none l.head? λx=>aa none (T.au 3 x) λh=>aa none l.tail.head? λx=>aa none (T.au 5 x) λf
 =>aa none l.tail.tail.head? λx=>aa none (T.au 1 x) λi=>aa none (List.drop 3 l).head? λx=>aa none (T.int? i64 x) λn=>aa none (List.drop 3 l).tail.head? λx=>aa none (T.int?
 i64 x) λo=>aa none (eJ (some !bif !n== (0:Int) then true else !(↑f.snd.length:Int)== (↑a.snd.length:Int)) (O (Key.call 11) [AV.t (T.ad 3 p.fst p.snd),AV.t (T.ad 3 h.fst h.snd)] []))
 λl=>aa (some !bif !n== (0:Int) then true else !(↑f.snd.length:Int)== (↑a.snd.length:Int)) l.head? λx=>aa (some !bif !n== (0:Int) then true else !(↑f.snd.length:Int)== (↑a.snd.length:
 Int)) x.bool? λb=>aa none (eJ (some !bif bif !n== (0:Int) then true else !(↑f.snd.length:Int)== (↑a.snd.length:Int) then true else !b) (O (Key.call 12) [AV.t (T.ad 1 g.fst g.snd),AV.t (T.ad 1
 i.fst i.snd)] [])) λl=>aa (some !bif bif !n== (0:Int) then true else !(↑f.snd.length:Int)== (↑a.snd.length:Int) then true else !b) l.head? λx=>aa (some !bif bif !n== (0:Int) then true else
 !(↑f.snd.length:Int)== (↑a.snd.length:Int) then true else !b) x.bool? λj=>bif bif bif bif !n== (0:Int) then true else !(↑f.snd.length:Int)== (↑a.snd.length:Int) then true else !b then true else
 !j then some [T.bool false] else O rJ [AV.ref (Id.c 0) 0,AV.ref (Id.c 1) 0,I (0:Int)] [ab.box [AV.t (T.ad 3 p.fst p.snd),AV.t (T.ad 5 a.fst a.snd),AV.t (T.ad 1 g.fst g.snd)],ab.box [AV.t (T.ad 3
 h.fst h.snd),AV.t (T.ad 5 f.fst f.snd),AV.t (T.ad 1 i.fst i.snd)]]):=by kernel_rfl
theorem EB(O:ay)(a:Bool)(c:List (List T))(b:Bool)(d:List (List T)):aA aq ann O (Key.call 12) [(AV.t (T.ad 1 a c)),(AV.t (T.ad 1 b d))] []=
 (bif !(↑c.length:Int)== (↑d.length:Int) then some [T.bool false] else O rI [AV.t (T.ad 1 a c),AV.t (T.ad 1 b d),I (0:Int)] []):=by kernel_rfl
theorem yy(O:ay)(f:Int)(g:Bool)(y:List (List T))(h:Bool)(a:List (List T))(i:Bool)(z:List (List T))(j:Bool)(A:List (List T))(k:Bool)(d:List (List T))(m:Bool)(B:List (List T)):aA aq ann O rJ [(AV.ref (Id.c 0) 0),(AV.ref (Id.c 1) 0),(I f)] [(ab.box [(AV.t (T.ad 3 g y)),(AV.t (T.ad 5 h a)),(AV.t (T.ad 1 i z))]),(ab.box [(AV.t (T.ad 3 j A)),(AV.t (T.ad 5 k d)),(AV.t (T.ad 1 m B))])]=
 (bif decide (f < (↑a.length:Int)) then aa none (if(0:Int)<=f/\f < (↑a.length:Int) then some () else none) λx=>aa none a[f.toNat]? λl=>aa none l.head? λx=>aa none l.tail.head? fun
 D=>aa none l.tail.tail.head? λE=>aa none l.tail.tail.tail.head? λF=>aa none l.tail.tail.tail.tail.head? λG=>aa none (T.int? i64 x) λn=>aa none (T.au 1 D) λp=>aa none
 (T.int? i64 E) λo=>aa none (T.int? i64 F) λq=>aa none G.ba λs=>aa none (if(0:Int)<=f/\f < (↑d.length:Int) then some () else none) λx=>aa none d[f.toNat]?
 λl=>aa none l.head? λx=>aa none l.tail.head? λH=>aa none l.tail.tail.head? λJ=>aa none l.tail.tail.tail.head? λK=>aa none l.tail.tail.tail.tail.head? λL=>aa none (T.int?
 i64 x) λr=>aa none (T.au 1 H) λC=>aa none (T.int? i64 J) λu=>aa none (T.int? i64 K) λv=>aa none L.ba λw=>aa none (eJ (some !bif bif bif !n==
 r then true else !o==u then true else !q==v then true else !s.toList==w.toList) (O (Key.call 12) [AV.t (T.ad 1 p.fst p.snd),AV.t (T.ad 1 C.fst C.snd)] [])) λl=>aa (some !bif bif bif !n==
 r then true else !o==u then true else !q==v then true else !s.toList==w.toList) l.head? λx=>aa (some !bif bif bif !n==r then true else !o==u then true else !q==v then true else
 !s.toList==w.toList) x.bool? λb=>bif bif bif bif bif !n==r then true else !o==u then true else !q==v then true else !s.toList==w.toList then true else !b then some [T.bool false] else O rJ
 [AV.ref (Id.c 0) 0,AV.ref (Id.c 1) 0,AV.t (T.int i64 (i64.wrap (f+ (1:Int))))] [ab.box [AV.t (T.ad 3 g y),AV.t (T.ad 5 h a),AV.t (T.ad 1 i z)],ab.box [AV.t (T.ad 3 j
 A),AV.t (T.ad 5 k d),AV.t (T.ad 1 m B)]] else some [T.bool true]):=by kernel_rfl
theorem yx(O:ay)(d:Bool)(b:List (List T))(f:Bool)(c:List (List T))(a:Int):aA aq ann O rI [(AV.t (T.ad 1 d b)),(AV.t (T.ad 1 f c)),(I a)] []=
 (bif decide (a < (↑b.length:Int)) then aa none (if(0:Int)<=a/\a < (↑b.length:Int) then some () else none) λx=>aa none b[a.toNat]? λl=>aa none l.head? λx=>aa none (T.int? i64 x)
 λn=>aa none (if(0:Int)<=a/\a < (↑c.length:Int) then some () else none) λx=>aa none c[a.toNat]? λl=>aa none l.head? λx=>aa none (T.int? i64 x) λg=>bif !n==g then some
 [T.bool false] else O rI [AV.t (T.ad 1 d b),AV.t (T.ad 1 f c),I (i64.wrap (a+ (1:Int)))] [] else some [T.bool true]):=by kernel_rfl
theorem d3(O:ay)(ed:Bool)(d:List (List T))(en:Bool)(nd:List (List T))(eh:Bool)(a:List (List T))(em:Bool)(m:List (List T)):aA aq ann O (Key.call 3) [AV.agg [AV.t (T.ad 3 ed d),AV.t (T.ad 5 en nd),AV.t (T.ad 1 eh a)],AV.agg [AV.t (T.ad 5 em m)]] []=
 (aa none (O (Key.call 5) [] []) λl=>aa none l.head? λx=>aa none x.bool? λb=>bif !b then some [T.bool false] else aa none (O (Key.call 6) [AV.agg [AV.t (T.ad 3 ed d),AV.t (T.ad 5 en nd),AV.t (T.ad 1
 eh a)],AV.agg [AV.t (T.ad 5 em m)]] []) λl=>aa none l.head? λx=>aa none (T.au 5 x) λp=>aa none (List.drop 1 l).head? λx=>aa none (T.int? i64 x) λn=>aa none (List.drop 1
 l).tail.head? λx=>aa none (T.int? i64 x) λc=>bif !n== (0:Int) then some [T.bool ((↑p.snd.length:Int)== (0:Int))] else aa none (O (Key.call 7) [AV.agg [AV.t (T.ad 3 ed d),AV.t (T.ad 5 en
 nd),AV.t (T.ad 1 eh a)],AV.agg [AV.t (T.ad 5 p.fst p.snd)]] []) λl=>aa none l.head? λx=>aa none (T.au 5 x) λp=>aa none (List.drop 1 l).head? λx=>aa none (T.int? i64 x) λn=>aa
 none (List.drop 1 l).tail.head? λx=>aa none (T.int? i64 x) λf=>aa none (eJ (some (n== (0:Int))) (O (Key.call 8) [AV.agg [AV.t (T.ad 5 p.fst p.snd)],AV.agg [AV.t (T.ad 5 em m)]] [])) λl=>
 aa (some (n== (0:Int))) l.head? λx=>aa (some (n== (0:Int))) x.bool? λb=>some [T.bool (bif n== (0:Int) then b else false)]):=by kernel_rfl
open Go Go.Aev Go.IntKind
theorem Jt(a b c:Bool):Or (.call 10) [AV.agg [AV.t (T.ad 3 a []),AV.t (T.ad 5 b []),AV.t (T.ad 1 c [])]] []=some [tb true]:=by refine ai ?_;rw [EU];rfl
structure Aa (d d':Dc):Prop where
 nm:d.nm=d'.nm
 so:d.so=d'.so
 ar:d.ar=d'.ar
section
variable {e e':Bool} {ds ds':List Dc}
theorem HE{k:Nat}{d b:Dc}(h:ds[k]? =some d)(c:ds'[k]? =some b)(p:d.ar=b.ar)(hl:d.ar.length<=1000)(v:k<=1000)
  (q:Or pF [AV.t (T.ad 3 e (aJ ds)),AV.t (T.ad 3 e' (aJ ds')),I ((k+1:Nat):Int)] []=some [tb true]):
  ∀(r:List Int) (j:Nat),d.ar.drop j=r->Or rA [AV.t (T.ad 3 e (aJ ds)),AV.t (T.ad 3 e' (aJ ds')),I (k:Int),I (j:Int)] []=some [tb true]:=by
 have i: 0<=(k:Int):=by omega
 have l:(k:Int) < (ds.length:Int):=by have:=(Ls.1 h).1;omega
 have u:(k:Int) < (ds'.length:Int):=by have:=(Ls.1 c).1;omega
 have m:(aJ ds')[((k:Nat):Int).toNat]? =some [T.str b.nm,T.ad 1 b.ea (enc d.ar),ti b.so]:=by rw [dR c,p]
 intro r;induction r with
 | nil=>
  intro j g;have f:¬(j:Int) < (d.ar.length:Int):=by have:=br g;omega
  refine ai ?_;rw [yR];simp only [aj,↓reduceIte,Int.reduceBEq,Int.reduceEq,i,l,and_self,cw,dR h,aD,f,next k (by omega)];exact q
 | cons a r s=>
  intro j g;obtain⟨n,w,o⟩:=bu g;have f:(j:Int) < (d.ar.length:Int):=by omega
  have h0: 0<=(j:Int):=by omega
  refine ai ?_;rw [yR];simp only [aj,↓reduceIte,Int.reduceBEq,Int.reduceEq,i,l,u,h0,f,and_self,cw,dR h,m,aD,bJ n,next j (by omega)];exact s (j+1) o
theorem HD(n:ds.length=ds'.length)(hl:ds.length<=1000)(m:∀d∈ds,d.ar.length<=1000)(f:∀(k:Nat) (d c:Dc),ds[k]? =some d->ds'[k]? =some c->Aa d c):∀(r:List Dc) (k:Nat),ds.drop k=r->Or pF [AV.t (T.ad 3 e (aJ ds)),AV.t (T.ad 3 e' (aJ ds')),I (k:Int)] []=some [tb true]:=by
 intro r;induction r with
 | nil=>
  intro k g;have l:¬(k:Int) < (ds.length:Int):=by have:=br g;omega
  refine ai ?_;rw [yQ];simp only [aj,↓reduceIte,Int.reduceBEq,Int.reduceEq,cw,l]
 | cons d r p=>
  intro k g;obtain⟨a,x,j⟩:=bu g;have q: 0<=(k:Int):=by omega
  have s:(k:Int) < (ds.length:Int):=by omega
  have u:(k:Int) < (ds'.length:Int):=by omega
  have b:ds'[k]? =some ds'[k]:=Ly (by omega);obtain⟨v,w,h⟩:=f k d _ a b;have i:(aJ ds')[((k:Nat):Int).toNat]? =some [T.str d.nm,T.ad 1 ds'[k].ea (enc d.ar),ti d.so]:=by rw [dR b,v,w,h]
  have o:=HE (e:=e) (e':=e') a b h (m d (LB a)) (by omega) (p (k+1) j) d.ar 0 rfl;refine ai ?_;rw [yQ];simp only [aj,↓reduceIte,Int.reduceBEq,Int.reduceEq,q,s,u,and_self,cw,dR a,i,aD,Lv,cond_false];exact o
theorem Ju(a:ds.length=ds'.length)(hl:ds.length<=1000)(f:∀d∈ds,d.ar.length<=1000)(c:∀(k:Nat) (d b:Dc),ds[k]? =some d->ds'[k]? =some b->Aa d b):Or (.call 11) [AV.t (T.ad 3 e (aJ ds)),AV.t (T.ad 3 e' (aJ ds'))] []=some [tb true]:=by
 have h:=HD (e:=e) (e':=e') a hl f c ds 0 rfl;have g:(((aJ ds).length:Int)== ((aJ ds').length:Int))=true:=by rw [cw,cw,a];simp
 refine ai ?_;rw [EV,g];exact h
end
open Go Go.Aev Go.IntKind
theorem HA{e e':Bool}{l:List Int}(hl:l.length<=1000):∀(r:List Int) (i:Nat),l.drop i=r->Or rI [ad e l,ad e' l,I (i:Int)] []=some [tb true]:=by
 intro r;induction r with
 | nil=>
  intro i g;have b:¬(i:Int) < (l.length:Int):=by have:=br g;omega
  refine ai ?_;rw [yx];simp only [aj,↓reduceIte,Int.reduceBEq,Int.reduceEq,aD,b]
 | cons a r f=>
  intro i g;obtain⟨c,h,d⟩:=bu g;have b:(i:Int) < (l.length:Int):=by omega
  have h0: 0<=(i:Int):=by omega
  refine ai ?_;rw [yx];simp only [aj,↓reduceIte,Int.reduceBEq,Int.reduceEq,h0,b,and_self,aD,bJ c,next i (by omega)];exact f (i+1) d
theorem CR{e e':Bool}{l:List Int}(hl:l.length<=1000):Or (.call 12) [ad e l,ad e' l] []=some [tb true]:=by have h:=HA (e:=e) (e':=e') hl l 0 rfl;refine ai ?_;rw [EB];simp only [beq_self_eq_true,Lv,cond_false];exact h
theorem H7{b:As}(hl:b.ns.length<=1000)(h:∀x∈b.ns,x.ks.length<=1000):∀(r:List Nd) (i:Nat),b.ns.drop i=r->Or rJ [r0,r1,I (i:Int)] [mN b,mN b]=some [tb true]:=by
 intro r;induction r with
 | nil=>
  intro i g;have a:¬(i:Int) < (b.ns.length:Int):=by have:=br g;omega
  refine ai ?_;rw [yy];simp only [aj,↓reduceIte,Int.reduceBEq,Int.reduceEq,cO,a]
 | cons x r j=>
  intro i g;obtain⟨c,k,f⟩:=bu g;have a:(i:Int) < (b.ns.length:Int):=by omega
  have h0: 0<=(i:Int):=by omega
  have d:=CR (e:=x.ek) (e':=x.ek) (h x (LB c));refine ai ?_;rw [yy];simp only [aj,↓reduceIte,Int.reduceBEq,Int.reduceEq,h0,a,and_self,cO,ef c,next i (by omega),Lv,cond_false,Lx,d];exact j (i+1) f
theorem Hb{a:As}(wf:lD a)(C:∀d∈a.ds,d.nm.size<=9223372036854775807)(s:Or (.call 5) [] []=some [tb true]):Or (.call 4) [AG a] []=some [tb true]:=by
 have g:=CZ (a:=a) wf C;have m:∀c p:Int,c≠0->lP a= [T.af true,T.af true,T.af true,ti c,ti p]->Or (.call 4) [AG a] []=some [tb true]:=by
  intro c p B f;rw [f] at g;have q:(c==0)=false:=by simpa using B
  have w:=Jt true true true;refine ai ?_;rw [d4];simp only [bK,bO,cU,pX,r7,r8,r9,eS,bT,cn,bN,bX,s,Lv,Lx,g,q,w]
 by_cases h:(bL a).2.1=0
 .have f:=yI h;cases hm:oX a with
  | true=>rw [hm,if_pos rfl] at f;exact m 10 0 (by decide) f
  | false=>
   rw [hm,if_neg (by decide)] at f;rw [f] at g;have j:=Ea wf h hm;generalize bF a=b at j g;obtain⟨K,hs,_,_⟩:=j.so;obtain⟨okb,r⟩:=uF (a:=b) (es:=true) (by rw [hs]);have G:b.ds.length<=30:=okb.dl;have I:b.ns.length<=200:=okb.nl;have H:b.hs.length<=200:=okb.hl;have v:∀d∈b.ds,d.nm.size<=12:=okb.ds;have n:=CZ (a:=b) j.wf (λd f=>by have:=v d f;omega);rw [EN j] at n;have y:=Ju (e:=b.ed) (e':=b.ed) (ds:=b.ds) (ds':=b.ds) rfl (by omega) (λd f=>by have:=r d f;omega) (λk d J A o=>by rw [A] at o;cases o;exact⟨rfl,rfl,rfl⟩);have z:=CR (e:=b.eh) (e':=b.eh) (l:=b.hs) (by omega);have E:=H7 (b:=b) (by omega) (λx D=>by
    obtain⟨i,t⟩:=MA D;have u:i < (bL b).1.length:=by have o:(bL b).1.length=b.ns.length:=okb.sl;have:=(Ls.1 t).1;omega
    have:=(okb.nd i x _ t (Ly u)).kl;omega) b.ns 0 rfl
   have F:((0:Int)==0)=true:=rfl;refine ai ?_;rw [d4];simp only [bK,bO,cU,pX,r7,r8,r9,eS,bT,cn,dO,bN,bX,s,Lv,Lx,g,n,F,y,z,gv,fD,beq_self_eq_true,cond_false];exact E
 .have f:lP a= [T.af true,T.af true,T.af true,ti (bL a).2.1,ti (bL a).2.2]:=by unfold lP;rw [if_neg h]
  exact m _ _ h f
end Go.Aev.Gen
