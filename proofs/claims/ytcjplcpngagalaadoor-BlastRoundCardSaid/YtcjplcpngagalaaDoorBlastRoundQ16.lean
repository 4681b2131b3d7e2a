import Derived.Test.YtcjplcpngagalaaDoorBlastRoundQ8
import Derived.Test.YtcjplcpngagalaaDoorBlastRoundQ15
set_option linter.all false
namespace Go.Aev.Gen
open Go Go.Aev Go.IntKind
noncomputable abbrev G9:Key:=bG ak 4 true 11 [(4,none),(6,none),(8,none)] (0,0)
theorem d4(O:aq)(ed:Bool)(d:List (List T))(en:Bool)(nd:List (List T))(eh:Bool)(j:List (List T)):ax ak ann O (Key.call 4) [AV.agg [AV.t (T.ab 3 ed d),AV.t (T.ab 5 en nd),AV.t (T.ab 1 eh j)]] []=
 (U' (O (Key.call 5) [] []) λl=>U' l.head? λx=>U' x.bool? λb=>bif !b then some [T.bool false] else U' (O (Key.call 9) [AV.agg [AV.t (T.ab 3 ed d),AV.t (T.ab 5 en nd),AV.t (T.ab 1
 eh j)]] []) λl=>U' l.head? λx=>U' (T.an 3 x) λp=>U' l.tail.head? λx=>U' (T.an 5 x) λa=>U' l.tail.tail.head? λx=>U' (T.an 1 x) λf=>U'
 (List.drop 3 l).head? λx=>U' (T.int? i64 x) λn=>U' (List.drop 3 l).tail.head? λx=>U' (T.int? i64 x) λk=>bif !n== (0:Int) then U' (O (Key.call 10) [AV.agg
 [AV.t (T.ab 3 p.fst p.snd),AV.t (T.ab 5 a.fst a.snd),AV.t (T.ab 1 f.fst f.snd)]] []) λl=>U' l.head? λx=>U' x.bool? λb=>some [T.bool b] else U' (O (Key.call 9) [AV.agg [AV.t
 (T.ab 3 p.fst p.snd),AV.t (T.ab 5 a.fst a.snd),AV.t (T.ab 1 f.fst f.snd)]] []) λl=>U' l.head? λx=>U' (T.an 3 x) λg=>U' l.tail.head? λx=>U' (T.an 5 x) λe
 =>U' l.tail.tail.head? λx=>U' (T.an 1 x) λh=>U' (List.drop 3 l).head? λx=>U' (T.int? i64 x) λn=>U' (List.drop 3 l).tail.head? λx=>U' (T.int?
 i64 x) λm=>U' (dE (some !bif !n== (0:Int) then true else !(↑e.snd.length:Int)== (↑a.snd.length:Int)) (O (Key.call 11) [AV.t (T.ab 3 p.fst p.snd),AV.t (T.ab 3 g.fst g.snd)] []))
 λl=>aa (some !bif !n== (0:Int) then true else !(↑e.snd.length:Int)== (↑a.snd.length:Int)) l.head? λx=>aa (some !bif !n== (0:Int) then true else !(↑e.snd.length:Int)== (↑a.snd.length:
 Int)) x.bool? λb=>U' (dE (some !bif bif !n== (0:Int) then true else !(↑e.snd.length:Int)== (↑a.snd.length:Int) then true else !b) (O (Key.call 12) [AV.t (T.ab 1 f.fst f.snd),AV.t (T.ab 1
 h.fst h.snd)] [])) λl=>aa (some !bif bif !n== (0:Int) then true else !(↑e.snd.length:Int)== (↑a.snd.length:Int) then true else !b) l.head? λx=>aa (some !bif bif !n== (0:Int) then true else
 !(↑e.snd.length:Int)== (↑a.snd.length:Int) then true else !b) x.bool? λi=>bif bif bif bif !n== (0:Int) then true else !(↑e.snd.length:Int)== (↑a.snd.length:Int) then true else !b then true else
 !i then some [T.bool false] else O G9 [Y'0,Y'1,I (0:Int)] [ad.box [AV.t (T.ab 3 p.fst p.snd),AV.t (T.ab 5 a.fst a.snd),AV.t (T.ab 1 f.fst f.snd)],ad.box [AV.t (T.ab 3
 g.fst g.snd),AV.t (T.ab 5 e.fst e.snd),AV.t (T.ab 1 h.fst h.snd)]]):=by kernel_rfl
theorem d3(O:aq)(ed:Bool)(d:List (List T))(en:Bool)(nd:List (List T))(eh:Bool)(a:List (List T))(em:Bool)(m:List (List T)):ax ak ann O (Key.call 3) [AV.agg [AV.t (T.ab 3 ed d),AV.t (T.ab 5 en nd),AV.t (T.ab 1 eh a)],AV.agg [AV.t (T.ab 5 em m)]] []=
 (U' (O (Key.call 5) [] []) λl=>U' l.head? λx=>U' x.bool? λb=>bif !b then some [T.bool false] else U' (O (Key.call 6) [AV.agg [AV.t (T.ab 3 ed d),AV.t (T.ab 5 en nd),AV.t (T.ab 1
 eh a)],AV.agg [AV.t (T.ab 5 em m)]] []) λl=>U' l.head? λx=>U' (T.an 5 x) λp=>U' (List.drop 1 l).head? λx=>U' (T.int? i64 x) λn=>U' (List.drop 1
 l).tail.head? λx=>U' (T.int? i64 x) λc=>bif !n== (0:Int) then some [T.bool ((↑p.snd.length:Int)== (0:Int))] else U' (O (Key.call 7) [AV.agg [AV.t (T.ab 3 ed d),AV.t (T.ab 5 en
 nd),AV.t (T.ab 1 eh a)],AV.agg [AV.t (T.ab 5 p.fst p.snd)]] []) λl=>U' l.head? λx=>U' (T.an 5 x) λp=>U' (List.drop 1 l).head? λx=>U' (T.int? i64 x) λn=>aa
 none (List.drop 1 l).tail.head? λx=>U' (T.int? i64 x) λe=>U' (dE (some (n== (0:Int))) (O (Key.call 8) [AV.agg [AV.t (T.ab 5 p.fst p.snd)],AV.agg [AV.t (T.ab 5 em m)]] [])) λl=>
 aa (some (n== (0:Int))) l.head? λx=>aa (some (n== (0:Int))) x.bool? λb=>some [T.bool (bif n== (0:Int) then b else false)]):=by kernel_rfl
open Go Go.Aev Go.IntKind
theorem Hy{a:As}(ms:List Me)(h:(bE a).2.1=0)(h0:iK a.ds ms):l4 a.ds (bF a).ds/\iK (bF a).ds (dT a.ds ms):=by
 unfold bF;cases b:nZ a with
 | true=>rw [if_pos rfl];exact⟨yg _ _ _,Au 0 h0⟩
 | false=>
  rw [if_neg (by decide)];unfold nZ pr at b;rw [RD] at b;have c:∀d∈a.ds,aE d.so=false:=λd e=>by simpa using Rm.1 b.2 d e
  exact⟨C6 _ c,Aw c h0⟩
theorem Lg{a:As}{ew:Bool}{ms:List Me}(f:Al a ms)(N:Or (.call 5) [] []=some [tb true]):Or (.call 3) [AG a,WG ew ms] []=some [tb true]:=by
 have F:=s8 (a:=a) (ew:=ew) (ms:=ms) f.nm f.wf;have g:=PE (a:=a) f.aw f.nm;have u:∀c p:Int,c≠0->Or (.call 6) [AG a,WG ew ms] []=some [T.ae true,ti c,ti p]->Or (.call 3) [AG a,WG ew ms] []=some [tb true]:=by
  intro c p C E;have J:(c==0)=false:=by simpa using C
  refine ah ?_;rw [d3];simp only [aK,aP,bA,js,bC,ba,cn,a8,bo,N,QE,QG,E,J,QW];rfl
 by_cases hm:(jz a ms).1=0
 .have s:((jz a ms).1==0)=true:=by simpa using hm
  obtain⟨h,hl,C⟩:=Ew hm;have n:=Ip h;cases t:sG a with
  | true=>rw [t,if_pos rfl] at n;rw [n] at g;replace g:Or (.call 9) [AG a] []=some [T.ae true,T.ae true,T.ae true,ti 10,ti 0]:=g;refine u 10 0 (by decide) (ah ?_);have z:((10:Int)==0)=false:=rfl;rw [e7];simp only [aK,aP,bA,p9,ba,cn,a8,bo,F,s,QE,g,z,QG]
  | false=>
   rw [t,if_neg (by decide)] at n;rw [n] at g;have I:=Hz f.aw h t;have h0:=Av hl C;obtain⟨r,o⟩:=Hy ms h h0;generalize bF a=b at I g r o;obtain⟨τ,hs,_,_⟩:=I.so;obtain⟨okb,hdab⟩:=pZ (a:=b) (es:=true) (by rw [hs]);have hbd:b.ds.length<=30:=okb.dl;have P:∀d∈b.ds,d.nm.size<=12:=okb.ds;have i:=Im f hm;obtain⟨v,U,hv⟩:=MN (ed:=a.ed) (ew:=ew) i;have E:Or (.call 6) [AG a,WG ew ms] []=some [v,ti 0,ti 0]:=by refine ah ?_;rw [e7];simp only [aj,↓reduceIte,F,hm,g,cj];exact U
   have A:=Bs (ds:=a.ds) (ms:=ms) λm hm=>⟨i.wf m hm,i.ok m hm⟩;have hdn:=Br a.ds ms;have Z:a.ds.length<=30:=(pZ (es:=(bE a).1.isEmpty) h).1.dl;obtain⟨l,H,M⟩:=GY h0;obtain⟨j,D⟩:=At o;have k:=D 0;have K:=xn j (by rw [k]);have O:jz b (dT a.ds ms)= (0,0):=by unfold jz;rw [hs,if_neg (by simp),if_neg (by simpa using j),k]
   generalize hV:dT a.ds ms=V at *
   have B:=s8 (a:=b) (ew:=a.ds.isEmpty) (ms:=V) (λd n=>by have:=P d n;omega) (λm hm=>(A m hm).1);rw [O] at B;have y:=Ag a.ds b.ds V r j A K;obtain⟨R,Y,w⟩:=LM (ed:=a.ed) (ew:=a.ds.isEmpty) (ds:=a.ds) (ms:=V) (by omega) (by omega) a.ds 0 0 [] rfl (RL _) (by rw [Tu];exact y) (by simp;omega);rw [Tu,H] at w;obtain⟨x,rfl,Q⟩:=w;rw [RO] at Q;have k7:Or (.call 7) [AG a,WG a.ds.isEmpty V] []=some [x,ti 0,ti 0]:=by have G:((0:Int)==0)=true:=rfl;refine ah ?_;rw [Iz];simp only [aK,aP,bA,p9,ba,bU,bo,g,B,G,QE,cj];exact Y
   obtain⟨W,len1⟩:=Af (q:=false) H9 y H;have X:∀m∈ms,ji m:=λm hm=>⟨(i.ok m hm).rl,(i.wf m hm).re,λe L=>⟨(i.wf m hm).rs e L,(i.ok m hm).al e L⟩⟩;have S:=N9 (ew:=l.isEmpty) (ew':=ew) (by omega) W X M;have G:((0:Int)==0)=true:=rfl;refine ah ?_;rw [d3];simp only [aK,aP,bA,js,bC,ba,a8,bo,N,hv,Q,QE,E,k7,G,dY,S]
 .have s:((jz a ms).1==0)=false:=by simpa using hm
  refine u (jz a ms).1 (jz a ms).2 hm (ah ?_);rw [e7];simp only [aK,aP,bA,ba,a8,F,s,QG]
end Go.Aev.Gen
