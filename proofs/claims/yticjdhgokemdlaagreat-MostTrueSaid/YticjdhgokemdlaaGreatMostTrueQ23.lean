import Derived.Test.YticjdhgokemdlaaGreatMostTrueQ20
import Derived.Test.YticjdhgokemdlaaGreatMostTrueQ22
import Derived.Test.YticjdhgokemdlaaGreatMostTrueQ18
import Derived.Test.YticjdhgokemdlaaGreatMostTrueQ5
set_option linter.all false
namespace Go.Aev.Wd.Lg
open Go Go.Aev Go.Aev.Gen Go.Aev.Wd Go.Aev.Tb
theorem TM{n:Int}{rows:List R}{gl:List Int}{v:Fr}{p t:List Fr}(e:(ez n rows gl).1=0)(hv:bf v)(h1:(p.length:Int)=n)(d:t.length=rows.length)(b:∀x∈p,bf x)(c:∀x∈t,bf x):ik n rows gl v p t= (0,0):=by unfold ik;rw [if_neg (by omega),if_neg (by omega),decide_eq_true hv,Vt.2 λx a=>decide_eq_true (b x a),Vt.2 λx a=>decide_eq_true (c x a)];rfl
theorem uw{l:List Nm}(h:dH l=true):∀x∈l.map b8,bf x:=λx a=>by obtain⟨y,hy,rfl⟩:=VJ.1 a;exact H4 (Vt.1 h y hy)
set_option maxRecDepth 100000 in
theorem Qn(rows:List R)(er eg:Bool)(n:Int)(gl:List Int)(k:Int)(j:∀r∈rows,r.e=true->r.of= []):
  Or (.call 6) [LR er rows,I n,aa eg gl,I k] []=some [tb true]:=by
 have b:=TW rows er eg n gl k j;have d:=FZ rows er eg n gl;have G:=pY 3 (-1);have u:=pY 10 0;refine aj ?_;rw [Pd];by_cases f:(ez n rows gl).1=0
 .obtain⟨q,go⟩:=It j f;have J:=(pX j f).1;rw [J] at d b;rw [if_neg (by decide)] at b;by_cases F:k < 0\/k > 2000
  .rw [if_pos F] at b;have Gv:zp (3, -1)= [ti 0,ti 0,ti 0,T.aJ true,T.aJ true,ti 3,ti (-1)]:=rfl;rw [Gv] at b;have g:(bif decide (k < 0) then true else decide (k > 2000))=true:=by
    rw [fu,WC,decide_eq_true_eq,decide_eq_true_eq];exact F
   simp only [bL,ai,↓reduceIte,Int.reduceBEq,Int.reduceEq,GD,u7,b,d,G,u,g];rfl
  .rw [if_neg F] at b;have g:(bif decide (k < 0) then true else decide (k > 2000))=false:=by
    rw [fu,Yn,decide_eq_false_iff_not,decide_eq_false_iff_not];omega
   rcases Np go k.toNat with e | e | ⟨v,pl,h,e,hv,h1,l,w,z,o⟩ | ⟨h,S,e,l,z,R,o⟩ | ⟨pl,t,e,h1,w,o,O⟩
   .rw [e] at b;unfold zK at b;simp only [ai,↓reduceIte,Int.reduceEq,GD,u7,b,d,g];rfl
   .rw [e] at b;unfold qz at b;simp only [ai,↓reduceIte,Int.reduceEq,GD,u7,b,d,u,g];rfl
   .rw [e] at b;have hz:=TM f hv (p:=pl.map b8) (t:=h.map b8) (by rw [WB];omega) (by rw [WB];exact l) (uw w) (uw z);have A:=MT rows er eg (decide (pl= [])) (decide (h= [])) n gl v (pl.map b8) (h.map b8);rw [hz] at A;have B:=MW rows er eg (decide (pl= [])) (decide (h= [])) n.toNat gl v (pl.map b8) (h.map b8) go.ro.sz.n go.ro.sz.m (pX j f).2.2.2.2.1 go.gl go.gb (by rw [WB];exact h1) (uw w) (by rw [WB];exact l) (uw z) hv;rw [o,q] at B;simp only [ai,↓reduceIte,GD,u7,b,d,g,De,A,B]
   .rw [e] at b;have D:=Sd R l z o er (decide (h= [])) go.ro (pX j f).2.2.2.2.1;rw [q] at D;have i:((fW (h.map b8)).length:Int)= (rows.length:Int):=by rw [cm,WB,l]
    simp only [ai,↓reduceIte,Int.reduceEq,GD,u7,b,d,g,De,i,bq,VL,D];rfl
   .rw [e] at b;have C:=MZ rows er eg (decide (pl= [])) n.toNat gl (pl.map b8) go.ro.sz.n go.ro.sz.m (pX j f).2.2.2.2.1 go.k2 go.gl go.gb (by rw [WB];exact h1) (uw w);rw [o] at C;have K:(fT n.toNat rows).1=0:=by
     rw [q];unfold ez at f;split at f
     .assumption
     .omega
    have E:=T1 rows er n.toNat 2000 (by omega) j K;obtain⟨s,x,y,c,a,e2,⟨U,V,P⟩,⟨Q,ly,hy⟩,hs⟩:=Tm go O 2000;rw [e2,q] at E;have i:((fW (pl.map b8)).length:Int)=n:=by rw [cm,WB,h1];exact q
    have M:(s==2)=false:=by simpa using hs
    have H:Or (.call 23) [LR er rows,I n,I 2000] []=some [ti s,x,y,ti c,ti a]:=E;rcases P with rfl | rfl <;> rcases hy with rfl | rfl <;>
     simp only [ai,↓reduceIte,Int.reduceEq,GD,u7,b,d,g,De,i,VL,C,H,M]
    all_goals (by_cases N:c=0 <;> simp [N] <;> rfl)
 .have L:((ez n rows gl).1==0)=false:=by simpa using f
  rw [if_pos f] at b;unfold zp at b;simp only [bL,ai,↓reduceIte,GD,u7,b,d,L,f];rfl
open Go Go.Aev Go.Aev.Gen Go.Aev.Wd Go.Proofs
set_option maxRecDepth 1000000 in
theorem vo{n:Nat}{ts:List T}(h:Wt an (n+1) 3 ts):∃m:Int,ts= [ti m]:=by have c:an.underlying 3=some (.int .i64):=Tryz.underlying3;have b:=@UW an n 3 ts .i64 c h;obtain⟨m,a,_⟩:=b;exact⟨m,a⟩
theorem FQ:an.cellsOf 3=1:=by kernel_rfl
theorem MJ:an.cellsOf 46=3:=by kernel_rfl
theorem Mx:an.bytesOf 46=40:=by kernel_rfl
set_option maxRecDepth 1000000 in
theorem Sp{n:Nat}{ts:List T}(h:Wt an (n+3) 46 ts):∃j:{r:R // r.e=true->r.of= []},ts=eR j.1:=by have s:=(Tryz.underlying46:an.underlying 46=_);have h1:=UY s h;obtain⟨a,b,rfl,k,c,d,rfl,m,e,f,rfl,o,rfl⟩:=h1;have i:=(Tryz.underlying23:an.underlying 23=_);obtain⟨b,l,g,p,_⟩:=LM (λz:Int=> [ti z]) i k (λcs q=>vo q);rw [FQ] at g;subst g;obtain⟨y,rfl⟩:=vo m;obtain⟨z,rfl⟩:=vo o;exact⟨⟨⟨b,l,y,z⟩,p⟩,rfl⟩
set_option maxRecDepth 1000000 in
theorem Sr{n:Nat}{a:AV}(h:(bw an 22=true/\∃l,Wt an (n+4) 22 l/\a= .agg (l.map .t))\/(bw an 22=false/\∃x,Wt an (n+4) 22 [x]/\a= .t x)):∃e l,a=LR e l/\(∀r∈l,r.e=true->r.of= [])/\l.length * 40<=reachBytes:=by
 obtain⟨x,h1,rfl⟩:=BL h (by kernel_rfl);have i:=(Tryz.underlying22:an.underlying 22=_);obtain⟨b,l,c,_,_,d⟩:=LO (λj:{r:R // r.e=true->r.of= []} =>eR j.1) i h1 (λcs f=>Sp f);rw [MJ] at c;rw [Mx] at d;simp only [Xh,and_true] at c;subst c;refine⟨b,l.map (·.1), ?_,λr g=> ?_,by simpa using d⟩
 .simp only [LR,dK,X4];rfl
 .obtain⟨j,_,rfl⟩:=VJ.1 g;exact j.2
set_option maxRecDepth 1000000 in
theorem Qg{n:Nat}{a:AV}(h:(bw an 23=true/\∃l,Wt an (n+2) 23 l/\a= .agg (l.map .t))\/(bw an 23=false/\∃x,Wt an (n+2) 23 [x]/\a= .t x)):∃e l,a=aa e l:=by obtain⟨x,h1,rfl⟩:=BL h (by kernel_rfl);have f:=(Tryz.underlying23:an.underlying 23=_);obtain⟨b,l,c,_,g⟩:=LM (λr:Int=> [ti r]) f h1 (λcs d=>vo d);rw [FQ] at c;simp only [Xh,and_true] at c;subst c;exact⟨b,l,rfl⟩
set_option maxRecDepth 1000000 in
theorem IE{n:Nat}{a:AV}(h:(bw an 3=true/\∃l,Wt an (n+1) 3 l/\a= .agg (l.map .t))\/(bw an 3=false/\∃x,Wt an (n+1) 3 [x]/\a= .t x)):∃m,a=I m:=by obtain⟨x,h1,rfl⟩:=BL h (by kernel_rfl);obtain⟨m,b⟩:=vo h1;simp only [Xh,and_true] at b;subst b;exact⟨m,rfl⟩
end Go.Aev.Wd.Lg
namespace Go.Aev.Gen
open Go Go.Aev Go.Aev.Wd Go.Aev.Wd.Lg Go.Proofs
set_option maxRecDepth 1000000 in
theorem claim6(vs:List AV)(h:wO an (19+1) Tryz.f6.params.toList vs):Or (.call 6) vs []=some [.bool true]:=by rw [Tryz.params6] at h;obtain⟨a,_,rfl,h1,b,_,rfl,f,c,_,rfl,g,d,_,rfl,i,rfl⟩:=h;obtain⟨e,q,rfl,j,_⟩:=Sr h1;obtain⟨n,rfl⟩:=IE f;obtain⟨eg,gl,rfl⟩:=Qg g;obtain⟨k,rfl⟩:=IE i;exact Qn q e eg n gl k j
end Go.Aev.Gen
