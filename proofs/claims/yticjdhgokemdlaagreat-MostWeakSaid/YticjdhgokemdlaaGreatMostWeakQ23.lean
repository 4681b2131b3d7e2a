import Derived.Test.YticjdhgokemdlaaGreatMostWeakQ20
import Derived.Test.YticjdhgokemdlaaGreatMostWeakQ22
import Derived.Test.YticjdhgokemdlaaGreatMostWeakQ18
import Derived.Test.YticjdhgokemdlaaGreatMostWeakQ5
set_option linter.all false
namespace Go.Aev.Wd.Lg
open Go Go.Aev Go.Aev.Gen Go.Aev.Wd Go.Aev.Tb Go.IntKind
theorem Lh{l:List Nm}(h:eE l=true):∀x∈l.map dh,bg x:=λx a=>by obtain⟨y,hy,rfl⟩:=UT.1 a;exact OW (UD.1 h y hy)
open Go Go.Aev Go.Aev.Gen Go.Aev.Wd Go.Aev.Tb
theorem QP(i:Nat)(h:i<=140737488355328):i64.wrap ((i:Int)+1)= ((i+1:Nat):Int):=by rw [Go.Aev.wr (by omega)];omega
theorem Td(e:Bool)(l:List Fr)(n:l.length * 16<=140737488355328):∀(a:List Fr) (i:Nat),l.drop i=a->Or wM [LN e l,I (i:Int)] []=some [tb (a.all λx=>decide (bg x))]:=by
 intro a;induction a with
 | nil=>
  intro i h;have h1:¬(i:Int) < (l.length:Int):=by have:=bu h;omega
  refine ak ?_;rw [BE];simp only [ai,↓reduceIte,Int.reduceBEq,Int.reduceEq,GD,h1,cV,List.all_nil]
 | cons x a k=>
  intro i h;obtain⟨c,m,j⟩:=bq h;have h1:(i:Int) < (l.length:Int):=by omega
  have d: 0<=(i:Int):=by omega
  have b:=Mi x;have g:=k (i+1) j;rw [VZ];by_cases f:bg x
  .rw [decide_eq_true f] at b⊢;rw [VU];refine ak ?_;rw [BE];simp only [ai,↓reduceIte,Int.reduceBEq,Int.reduceEq,GD,h1,d,and_self,cV,kV c,b,QP i (by omega)];exact g
  .rw [decide_eq_false f] at b⊢;rw [VS];refine ak ?_;rw [BE];simp only [ai,↓reduceIte,Int.reduceBEq,Int.reduceEq,GD,h1,d,and_self,cV,kV c,b]
theorem Tc(e:Bool)(l:List Fr)(a:l.length * 16<=140737488355328):Or (.call 14) [LN e l] []=some [tb (l.all λx=>decide (bg x))]:=by have:=Td e l a l 0 rfl;refine ak ?_;rw [MN];exact this
theorem My{n:Int}{rows:List R}{gl:List Int}(k:∀r∈rows,r.e=true->r.of= [])(er eg:Bool):∃(s g i:Int) (x y:T) (c a:Int) (m:Bool) (l:List (List T)) (o:Bool) (ly:List (List T)),
  Or (.call 13) [LR er rows,I n,aa eg gl,I 2000] []=some [ti s,ti g,ti i,x,y,ti c,ti a]/\T.aT 2 x=some (m,l)/\T.aT 2 y=some (o,ly)/\(c≠0->s=0/\l= []/\ly= [])/\
  (c=0->s=1->(eN n rows gl).1=0/\bg (g,i)/\∃p t,kG n.toNat rows gl (g,i) p t=true/\∀x∈t,bg x):=by
 have b:=S9 rows er eg n gl 2000 k;by_cases f:(eN n rows gl).1=0
 .obtain⟨A,go⟩:=Ch k f;rw [if_neg (by omega),if_neg (by decide)] at b;rcases Mx go (2000:Int).toNat with e | e | ⟨v,pl,w,e,hv,h1,q,u,j,d⟩ | ⟨w,z,e,q,j,R,d⟩ | ⟨pl,t,e,h1,u,d,B⟩
  .rw [e] at b;exact⟨4,0,0,_,_,0,0,true,[],true,[],b,cA 2 true,cA 2 true,λh=>absurd rfl h,λ_ h=>absurd h (by decide)⟩
  .rw [e] at b;exact⟨0,0,0,_,_,10,0,true,[],true,[],b,cA 2 true,cA 2 true,λ_=>⟨rfl,rfl,rfl⟩,λ_ h=>absurd h (by decide)⟩
  .rw [e] at b;exact⟨1,v.1,v.2,_,_,0,0,_,_,_,_,b,nD 2 _ _,nD 2 _ _,λh=>absurd rfl h,λ_ _=>⟨f,hv,_,_,d,Lh j⟩⟩
  .rw [e] at b;exact⟨2,0,0,_,_,0,0,true,[],_,_,b,cA 2 true,nD 2 _ _,λh=>absurd rfl h,λ_ h=>absurd h (by decide)⟩
  .rw [e] at b;exact⟨3,0,0,_,_,0,0,_,_,true,[],b,nD 2 _ _,cA 2 true,λh=>absurd rfl h,λ_ h=>absurd h (by decide)⟩
 .rw [if_pos f] at b;exact⟨0,0,0,_,_,_,_,true,[],true,[],b,cA 2 true,cA 2 true,λ_=>⟨rfl,rfl,rfl⟩,λ_ h=>absurd h (by decide)⟩
theorem OZ{v:Fr}(h:bg v):∃z,Or (.call 18) [Av v] []=some [z]/\WR (aW v) z:=HG v.1 v.2 (by have:=h.b;unfold jB at this;unfold Sm;omega) (by have:=h.b;unfold jB at this;unfold Sm;omega) (by have:=h.1;omega)
set_option maxRecDepth 100000 in
theorem PG(rows:List R)(er eg ep et W:Bool)(n:Int)(gl:List Int)(v:Fr)(p t o:List Fr)(M:∀r∈rows,r.e=true->r.of= [])(ho:o.length * 16<=140737488355328):
  Or (.call 4) [LR er rows,I n,aa eg gl,Av v,LN ep p,LN et t,LN W o] []=some [tb true]:=by
 have w:=Tc W o ho;obtain⟨s,v1,v2,x,y,c,a,bx,lx,cy,ly,l,k,hy,hcs,Q⟩:=My (n:=n) (gl:=gl) M er eg;have X:=u8 rows er eg ep et n gl v p t M;obtain⟨b,J,O,A,L⟩:∃b J O,Or (.call 8) [LR er rows,I n,aa eg gl,Av v,LN ep p,LN et t] []=some [tb b,ti J,ti O]/\(J=0->b=true->(jS n rows gl v p t).1=0/\kG n.toNat rows gl v p t=true):=by
  by_cases h:(jS n rows gl v p t).1=0
  .rw [if_pos h] at X;exact⟨_,_,_,X,λ_ h'=>⟨h,h'⟩⟩
  .rw [if_neg h] at X;exact⟨_,_,_,X,λ_ h'=>absurd h' (by decide)⟩
 have j:(if c=0 then false else if s=0 then decide (i64.wrap ((lx.length:Int)+ (ly.length:Int)) > 0) else true)=false:=by
  by_cases h:c=0
  .rw [if_pos h]
  .obtain⟨h1,G,E⟩:=hcs h;rw [if_neg h,if_pos h1,G,E];rfl
 obtain⟨K,d⟩:∃g,(if c=0 then s==1 else false)=g:=⟨_,rfl⟩;obtain⟨F,f⟩:∃g,(if J=0 then !b else true)= !g:=⟨!(if J=0 then !b else true),by simp⟩;have w1:K=true->c=0/\s=1:=λh=>by
  rw [h] at d;by_cases B:c=0
  .rw [if_pos B] at d;exact⟨B,by simpa using d⟩
  .rw [if_neg B] at d;cases d
 have w2:F=true->J=0/\b=true:=λh=>by
  rw [h] at f;by_cases B:J=0
  .rw [if_pos B] at f;exact⟨B,by simpa using f⟩
  .rw [if_neg B] at f;cases f
 refine ak ?_;rw [N3];by_cases P:K=false/\F=false
 .obtain⟨rfl,rfl⟩:=P;simp only [bT,ai,↓reduceIte,Int.reduceBEq,Int.reduceEq,GD,u7,l,k,hy,d,j,A,f]
 have B:(eN n rows gl).1=0:=by
  cases h1:K with
  | true=>obtain⟨G,E⟩:=w1 h1;exact(Q G E).1
  | false=>
   cases G:F with
   | true=>obtain⟨E,h4⟩:=w2 G;exact(DT M (L E h4).1).1
   | false=>exact absurd ⟨h1,G⟩ P
 obtain⟨hn,go⟩:=Ch M B;by_cases hL:(o.length:Int)=n
 .have i:((o.length:Int)==n)=true:=by simpa using hL
  cases hF:o.all λx=>decide (bg x) with
  | false=>rw [hF] at w;cases K <;> cases F <;> simp only [bT,ai,↓reduceIte,Int.reduceBEq,Int.reduceEq,GD,u7,l,k,hy,d,j,A,f,cV,i,w]
  | true=>
   rw [hF] at w;have hol:o.length=n.toNat:=by omega
   have Z:∀x∈o,bg x:=λx k=>of_decide_eq_true (UD.1 hF x k);have ok:=(xV M B).2.2.2.2.1;rw [<-hol] at ok;have C:=RS er rows W o (by have:=go.ro.sz.n;omega) ok Z go.ro.sz.m;cases hH:rows.all λr=>oO (qI r) o with
   | false=>rw [hH] at C;cases K <;> cases F <;> simp only [bT,ai,↓reduceIte,Int.reduceBEq,Int.reduceEq,GD,u7,l,k,hy,d,j,A,f,cV,i,w,C]
   | true=>
    rw [hH] at C;have hgl:=go.gl;have hn12:=go.ro.sz.n;obtain⟨q,S,q2,q3⟩:=JU eg W gl o go.gb (λx k=>(Z x k).b) (by omega) (by omega);rw [SM] at q2 q3;have hh:∀r∈rows,fU r (bt r.of (o.map aW))=true:=λr H=>by rw [<-Pt r o (go.ro.kd r H)];exact UD.1 hH r H
    have hkd:∀r∈rows,r.kd=1\/r.kd=3:=λr H=>by have:=go.ro.kd r H;have:=go.k2 r H;omega
    have N:∀(u:Fr) (Y V:List Fr),kG n.toNat rows gl u Y V=true->(∀x∈V,bg x)->bg u->∃z m,Or (.call 18) [Av u] []=some [z]/\Or (.call 17) [AV.t q,AV.t z] []=some [ti m]/\¬m > 0/\decide (m<=0)=true:=λu Y V h1 G E=>by
     have hw:=weak h1 hkd (go.ro.len) go.gl G hol hh;obtain⟨z,z1,z2⟩:=OZ E;have D:=Fi q2 z2 q3 (B9 E.b.1 E.b.2) (by omega);have hnp:¬pP (bt gl (o.map aW)) (aW u) > 0:=λh=>by have:=(vo (bt gl (o.map aW) - aW u)).1 h;grind
     exact⟨z,_,z1,D,hnp,decide_eq_true (by omega)⟩
    cases K with
    | false=>
     cases F with
     | false=>exact absurd ⟨rfl,rfl⟩ P
     | true=>obtain⟨a1,O⟩:=w2 rfl;obtain⟨b1,b2⟩:=L a1 O;obtain⟨_,_,_,c4,c5,c6⟩:=DT M b1;obtain⟨z,m,T,D,m1,m2⟩:=N v p t b2 c6 c4;simp only [bT,ai,↓reduceIte,Int.reduceBEq,Int.reduceEq,GD,u7,l,k,hy,d,j,A,f,cV,i,w,C,S,T,D,m2]
    | true=>
     obtain⟨a1,O⟩:=w1 rfl;obtain⟨_,b2,Y,V,b3,b4⟩:=Q a1 O;obtain⟨z,m,T,D,m1,m2⟩:=N (v1,v2) Y V b3 b4 b2;have U:Or (.call 18) [AV.agg [I v1,I v2]] []=some [z]:=T;cases F with
     | false=>simp only [bT,ai,↓reduceIte,Int.reduceBEq,Int.reduceEq,GD,u7,l,k,hy,d,j,A,f,cV,i,w,C,S,U,D,m1]
     | true=>obtain⟨a3,a4⟩:=w2 rfl;obtain⟨d1,d2⟩:=L a3 a4;obtain⟨_,_,_,c4,c5,c6⟩:=DT M d1;obtain⟨z',m',k18t,k17t,m1',m2'⟩:=N v p t d2 c6 c4;simp only [bT,ai,↓reduceIte,Int.reduceBEq,Int.reduceEq,GD,u7,l,k,hy,d,j,A,f,cV,i,w,C,S,U,D,m1,k18t,k17t,m2']
 .have i:((o.length:Int)==n)=false:=by simpa using hL
  cases K <;> cases F <;> simp only [bT,ai,↓reduceIte,Int.reduceBEq,Int.reduceEq,GD,u7,l,k,hy,d,j,A,f,cV,i]
open Go Go.Aev Go.Aev.Gen Go.Aev.Wd Go.Proofs
set_option maxRecDepth 1000000 in
theorem p6{n:Nat}{ts:List T}(h:Wt an (n+1) 3 ts):∃m:Int,ts= [ti m]:=by have c:an.underlying 3=some (.int .i64):=Tryz.underlying3;have b:=@Ua an n 3 ts .i64 c h;obtain⟨m,a,_⟩:=b;exact⟨m,a⟩
theorem E9:an.cellsOf 3=1:=by kernel_rfl
theorem L9:an.cellsOf 46=3:=by kernel_rfl
theorem LP:an.bytesOf 46=40:=by kernel_rfl
theorem LO:an.bytesOf 25=16:=by kernel_rfl
theorem E8:an.cellsOf 25=2:=by kernel_rfl
set_option maxRecDepth 1000000 in
theorem RE{n:Nat}{ts:List T}(h:Wt an (n+3) 46 ts):∃j:{r:R // r.e=true->r.of= []},ts=eR j.1:=by have s:=(Tryz.underlying46:an.underlying 46=_);have h1:=K4 s h;obtain⟨a,b,rfl,k,c,d,rfl,m,e,f,rfl,o,rfl⟩:=h1;have i:=(Tryz.underlying23:an.underlying 23=_);obtain⟨b,l,g,p,_⟩:=D0 (λz:Int=> [ti z]) i k (λcs q=>p6 q);rw [E9] at g;subst g;obtain⟨y,rfl⟩:=p6 m;obtain⟨z,rfl⟩:=p6 o;exact⟨⟨⟨b,l,y,z⟩,p⟩,rfl⟩
set_option maxRecDepth 1000000 in
theorem Cb{n:Nat}{ts:List T}(h:Wt an (n+2) 25 ts):∃x:Fr,ts= [ti x.1,ti x.2]:=by have g:=(Tryz.underlying25:an.underlying 25=_);have h1:=K4 g h;obtain⟨a,b,rfl,e,c,d,rfl,f,rfl⟩:=h1;obtain⟨y,rfl⟩:=p6 e;obtain⟨z,rfl⟩:=p6 f;exact⟨(y,z),rfl⟩
set_option maxRecDepth 1000000 in
theorem RG{n:Nat}{a:AV}(h:(bh an 22=true/\∃l,Wt an (n+4) 22 l/\a= .agg (l.map .t))\/(bh an 22=false/\∃x,Wt an (n+4) 22 [x]/\a= .t x)):∃e l,a=LR e l/\(∀r∈l,r.e=true->r.of= [])/\l.length * 40<=reachBytes:=by
 obtain⟨x,h1,rfl⟩:=ud h (by kernel_rfl);have i:=(Tryz.underlying22:an.underlying 22=_);obtain⟨b,l,c,_,_,d⟩:=D3 (λj:{r:R // r.e=true->r.of= []} =>eR j.1) i h1 (λcs f=>RE f);rw [L9] at c;rw [LP] at d;simp only [V6,and_true] at c;subst c;refine⟨b,l.map (·.1), ?_,λr g=> ?_,by simpa using d⟩
 .simp only [LR,dC,Xh];rfl
 .obtain⟨j,_,rfl⟩:=UT.1 g;exact j.2
set_option maxRecDepth 1000000 in
theorem Pz{n:Nat}{a:AV}(h:(bh an 23=true/\∃l,Wt an (n+2) 23 l/\a= .agg (l.map .t))\/(bh an 23=false/\∃x,Wt an (n+2) 23 [x]/\a= .t x)):∃e l,a=aa e l:=by obtain⟨x,h1,rfl⟩:=ud h (by kernel_rfl);have f:=(Tryz.underlying23:an.underlying 23=_);obtain⟨b,l,c,_,g⟩:=D0 (λr:Int=> [ti r]) f h1 (λcs d=>p6 d);rw [E9] at c;simp only [V6,and_true] at c;subst c;exact⟨b,l,rfl⟩
set_option maxRecDepth 1000000 in
theorem O5{n:Nat}{a:AV}(h:(bh an 25=true/\∃l,Wt an (n+2) 25 l/\a= .agg (l.map .t))\/(bh an 25=false/\∃x,Wt an (n+2) 25 [x]/\a= .t x)):∃v:Fr,a=Av v:=by obtain⟨l,h1,rfl⟩:=Lw h (by kernel_rfl);obtain⟨w,rfl⟩:=Cb h1;exact⟨w,rfl⟩
set_option maxRecDepth 1000000 in
theorem Hq{n:Nat}{a:AV}(h:(bh an 26=true/\∃l,Wt an (n+4) 26 l/\a= .agg (l.map .t))\/(bh an 26=false/\∃x,Wt an (n+4) 26 [x]/\a= .t x)):∃e l,a=LN e l/\(e=true->l= []):=by obtain⟨x,h1,rfl⟩:=ud h (by kernel_rfl);have g:=(Tryz.underlying26:an.underlying 26=_);obtain⟨b,l,c,d,_⟩:=D0 (λx:Fr=> [ti x.1,ti x.2]) g h1 (λcs f=>Cb (n:=n+1) f);rw [E8] at c;simp only [V6,and_true] at c;subst c;exact⟨b,l,rfl,d⟩
set_option maxRecDepth 1000000 in
theorem O6{n:Nat}{a:AV}(h:(bh an 26=true/\∃l,Wt an (n+4) 26 l/\a= .agg (l.map .t))\/(bh an 26=false/\∃x,Wt an (n+4) 26 [x]/\a= .t x)):∃e l,a=LN e l/\(e=true->l= [])/\l.length * 16<=reachBytes:=by obtain⟨x,h1,rfl⟩:=ud h (by kernel_rfl);have i:=(Tryz.underlying26:an.underlying 26=_);obtain⟨b,l,c,f,_,d⟩:=D3 (λx:Fr=> [ti x.1,ti x.2]) i h1 (λcs g=>Cb (n:=n+1) g);rw [E8] at c;rw [LO] at d;simp only [V6,and_true] at c;subst c;exact⟨b,l,rfl,f,d⟩
set_option maxRecDepth 1000000 in
theorem Py{n:Nat}{a:AV}(h:(bh an 3=true/\∃l,Wt an (n+1) 3 l/\a= .agg (l.map .t))\/(bh an 3=false/\∃x,Wt an (n+1) 3 [x]/\a= .t x)):∃m,a=I m:=by obtain⟨x,h1,rfl⟩:=ud h (by kernel_rfl);obtain⟨m,b⟩:=p6 h1;simp only [V6,and_true] at b;subst b;exact⟨m,rfl⟩
end Go.Aev.Wd.Lg
namespace Go.Aev.Gen
open Go Go.Aev Go.Aev.Wd Go.Aev.Wd.Lg Go.Proofs
set_option maxRecDepth 1000000 in
theorem claim4(vs:List AV)(h:we an (19+1) Tryz.f4.params.toList vs):Or (.call 4) vs []=some [.bool true]:=by rw [Tryz.params4] at h;obtain⟨a,_,rfl,h1,b,_,rfl,m,c,_,rfl,r,d,_,rfl,s,f,_,rfl,u,g,_,rfl,w,k,_,rfl,x,rfl⟩:=h;obtain⟨e,q,rfl,z,A⟩:=RG h1;obtain⟨n,rfl⟩:=Py m;obtain⟨eg,gl,rfl⟩:=Pz r;obtain⟨v,rfl⟩:=O5 s;obtain⟨j,p,rfl,_⟩:=Hq u;obtain⟨l,t,rfl,_⟩:=Hq w;obtain⟨i,o,rfl,_,y⟩:=O6 x;exact PG q e eg j l i n gl v p t o z (UY y (by decide))
end Go.Aev.Gen
