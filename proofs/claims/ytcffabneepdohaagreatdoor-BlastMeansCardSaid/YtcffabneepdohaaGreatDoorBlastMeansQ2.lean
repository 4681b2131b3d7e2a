import Derived.Test.YtcffabneepdohaaGreatDoorBlastMeansQ1
import Derived.ChangeKeysEq
import Derived.Deep.AppendSrc
import Derived.Great.FillDense
set_option linter.all false
namespace Go.Aev
open Go Go.IntKind
section
variable {P:Program} {w:World} {A:Nat->Prop}
theorem T.gW{k:IntKind}{x:T}{n:Int}(h:x.int? k=some n):x= .int k n:=by cases x <;> simp only [T.int?,reduceCtorEq] at h;split at h <;> simp_all
theorem T.jG{x:T}{b:Bool}(h:x.bool? =some b):x= .bool b:=by cases x <;> simp_all [T.bool?]
theorem T.lS{x:T}{s:ByteArray}(h:x.dU =some s):x= .str s:=by cases x <;> simp_all [T.dU]
theorem T.zf{x:T}{cs:List T}(h:x.sf =some cs):x= .ptr cs:=by cases x <;> simp_all [T.sf]
theorem T.rU{sz:Nat}{x:T}{p:Bool×List (List T)}(h:x.aQ sz=some p):x= .ad sz p.1 p.2\/(x= .aB p.1/\p.2= []):=by
 cases x <;> simp only [T.aQ,reduceCtorEq,Wj] at h
 case ad a b xs=>split at h <;> simp_all;subst h;simp
 case aB b=>subst h;simp
theorem PK{w:World}{A:Nat->Prop}{y:T}{v:Value}(h:yL y=true)(a:az w A y v):v= .slice none 0 0:=by
 unfold yL at h;split at h
 .simp only [az] at a;rcases a with⟨_,h⟩ | ⟨h,_⟩
  .exact h
  .cases h
 .simp only [az] at a;rcases a with⟨_,_,h⟩ | ⟨h,_⟩
  .exact h
  .cases h
 .cases h
theorem AV.nh{v:AV}{x:T}(h:v.t? =some x):v= .t x:=by cases v <;> simp_all [AV.t?]
theorem rJ{d R:Type}[Inhabited d]{c:Option Bool}{m:Option d}{k:d->Option R}{r:R}(h:ab c m k=some r):
  ∃a,k a=some r/\(m=some a\/(m=none/\c=some false)):=by
 unfold ab at h;cases m with
 | some a=>exact⟨a,h, .inl rfl⟩
 | none=>cases c with
  | none=>simp at h
  | some b=>cases b with
   | true=>simp at h
   | false=>exact⟨_,h, .inr ⟨rfl,rfl⟩⟩
def uP(P:Program)(R:Value->World->Prop):Result Next->Prop
 | .ok (.value x) w'=>R x w'
 | .ok .skip w'=>R undef w'
 | .ok (.enter f args) w'=>Calls P f args w' λe a=>∃x,e= .returned x/\R x a
 | _=>False
def jA(P:Program)(o:Oper)(a:Act)(w:World)(R:Value->World->Prop):Prop:=uP P R ((execOp a.eval o).run P w)
theorem jA.mono{o:Oper}{a:Act}{R b:Value->World->Prop}(h:jA P o a w R)(d:∀x w',R x w'->b x w'):jA P o a w b:=by
 unfold jA at *
 generalize (execOp a.eval o).run P w=r at *
 cases r with
 | ok n w'=>
  cases n <;> simp only [uP] at h⊢
  case enter=>exact h.mono λe i ⟨x,f,g⟩=>⟨x,f,d _ _ g⟩
  all_goals exact d _ _ h
 | halt x w'=>simp [uP] at h
theorem jA.wp{o:Oper}{a:Act}{R:Value->World->Prop}{K:Act->World->Prop}{Q:Exit->Act->World->Prop}(h:jA P o a w R)(b:∀x w',R x w'->K (a.put o.dst x) w'):o.wp P a w K Q:=by
 unfold jA at h;unfold Oper.wp;generalize (execOp a.eval o).run P w=r at *
 cases r with
 | ok n w'=>
  cases n <;> simp only [uP] at h <;> simp only [Oper.upon]
  case enter=>exact h.mono λe g ⟨x,d,f⟩=>by subst d;exact b _ _ f
  all_goals first | exact b _ _ h | exact h.elim
 | halt x w'=>simp [uP] at h
theorem yI{t:TypeId}{d:TypeDesc}(h:P.underlying t=some d):∃i,P.info? t=some i/\P.cellsOf t=i.size:=by
 unfold Program.underlying at h;cases a:P.info? t with
 | none=>simp [a] at h
 | some i=>exact⟨i,rfl,by simp [Program.cellsOf,a]⟩
theorem jS{t:TypeId}(h:cx P t=true)(w:World):(sizeOf t).run P w= .ok (P.cellsOf t) w:=by unfold cx at h;obtain⟨d,a⟩:=X5.1 h;obtain⟨i,b,hs⟩:=yI a;rw [hs];simp [sizeOf,typeInfo,b]
theorem uo{t:TypeId}(h:cx P t=true)(w:World):(isAgg t).run P w= .ok (bW P t) w:=by unfold cx at h;obtain⟨d,a⟩:=X5.1 h;unfold isAgg bW;simp only [WR,run_underlying a,WD,a];cases d <;> rfl
theorem hF(k:IntKind)(n:Int)(w:World)(A:Nat->Prop):az w A (.int k n) (.int k n):=by simp [az]
theorem oT(b:Bool)(w:World)(A:Nat->Prop):az w A (.bool b) (.bool b):=by simp [az]
theorem mW(b:ByteArray)(w:World)(A:Nat->Prop):az w A (.str b) (.string b):=by simp [az]
theorem LK{R:Type}{op:BinOp}{k:IntKind}{c:Option Bool}{x y:T}{K:T->Option R}{r:R}{t:TypeId}{j l:Value}(f:c=none\/c=some true)
  (g:az w A x j) (i:az w A y l) (h:sT op k c x y K=some r):
  ∃z m,K z=some r/\(∀w A,az w A z m)/\(binOp op t j l).run P w= .ok m w:=by
 unfold sT at h;replace h:=aS h f;obtain⟨a,n,h⟩:=h;replace h:=aS h f;obtain⟨b,o,h⟩:=h;have:=T.gW n;subst this;have:=T.gW o;subst this;simp only [az] at g i;subst g;subst i;cases op <;> simp only [reduceCtorEq] at h
 case quo=>
  replace h:=aS h f;obtain⟨_,h0,h⟩:=h;have d:b≠0:=by intro e;simp [e] at h0
  exact⟨_,_,h,by first | exact hF _ _ | exact oT _ | exact mW _,by simp [binOp,Op.intDiv,d]⟩
 case rem=>
  replace h:=aS h f;obtain⟨_,h0,h⟩:=h;have d:b≠0:=by intro e;simp [e] at h0
  exact⟨_,_,h,by first | exact hF _ _ | exact oT _ | exact mW _,by simp [binOp,Op.intDiv,d]⟩
 all_goals exact⟨_,_,h,by first | exact hF _ _ | exact oT _ | exact mW _,by simp [binOp,Op.intArith,Op.intBits,Op.intCmp]⟩
theorem Uh{R:Type}{op:BinOp}{k ky:IntKind}{c:Option Bool}{x y:T}{K:T->Option R}{r:R}{t:TypeId}{j l:Value}(d:c=none\/c=some true)
  (g:az w A x j) (i:az w A y l) (h:uw op k ky c x y K=some r):
  ∃z m,K z=some r/\(∀w A,az w A z m)/\(binOp op t j l).run P w= .ok m w:=by
 unfold uw at h;replace h:=aS h d;obtain⟨a,n,h⟩:=h;replace h:=aS h d;obtain⟨b,o,h⟩:=h;have:=T.gW n;subst this;have:=T.gW o;subst this;simp only [az] at g i;subst g;subst i;replace h:=aS h d;obtain⟨_,h0,h⟩:=h;have f:¬b < 0:=by intro e;simp [e] at h0
 cases op <;> simp only [reduceCtorEq] at h
 all_goals exact⟨_,_,h,by first | exact hF _ _ | exact oT _ | exact mW _,by simp [binOp,Op.shift,f]⟩
theorem UF{R:Type}{op:BinOp}{c:Option Bool}{x y:T}{K:T->Option R}{r:R}{t:TypeId}{j k:Value}(d:c=none\/c=some true)
  (g:az w A x j) (i:az w A y k) (h:uB op c x y K=some r):
  ∃z l,K z=some r/\(∀w A,az w A z l)/\(binOp op t j k).run P w= .ok l w:=by
 unfold uB at h;replace h:=aS h d;obtain⟨a,m,h⟩:=h;replace h:=aS h d;obtain⟨b,n,h⟩:=h;have:=T.lS m;subst this;have:=T.lS n;subst this;simp only [az] at g i;subst g;subst i;cases op <;> simp only [reduceCtorEq] at h
 case add=>
  replace h:=aS h d;obtain⟨_,h0,h⟩:=h;have o:a.size+b.size<=4294967296:=by
   by_cases e:a.size+b.size<=4294967296
   .exact e
   .simp [e] at h0
  have f:¬(((a.size+b.size:Nat):Int) > i64.max):=by
   have:i64.max=9223372036854775807:=by decide
   rw [this];omega
  exact⟨_,_,h,by first | exact hF _ _ | exact oT _ | exact mW _,by simp only [binOp,Op.stringOp,if_neg f];rfl⟩
 all_goals exact⟨_,_,h,by first | exact hF _ _ | exact oT _ | exact mW _,by simp [binOp,Op.stringOp]⟩
theorem LU{R:Type}{op:BinOp}{t ty:TypeId}{c:Option Bool}{x y:T}{K:T->Option R}{r:R}{e f:Value}(a:c=none\/c=some true)
  (b:az w A x e) (d:az w A y f) (h:sV P op t ty c x y K=some r):
  (op≠ .eql/\op≠ .neq)/\∃z g,K z=some r/\(∀w A,az w A z g)/\(binOp op t e f).run P w= .ok g w:=by
 unfold sV at h;cases op <;> simp only [reduceCtorEq] at h <;> refine⟨⟨by simp,by simp⟩, ?_⟩ <;> split at h <;> first | exact LK a b d h | exact Uh a b d h | exact UF a b d h | simp at h
theorem UZ{R:Type}{op:UnOp}{t:TypeId}{c:Option Bool}{x:T}{K:T->Option R}{r:R}{f:Value}(e:c=none\/c=some true)
  (b:az w A x f) (h:uG P op t c x K=some r):
  ∃z g,K z=some r/\(∀w A,az w A z g)/\(Op.unary op f).run P w= .ok g w:=by
 unfold uG at h;split at h
 .replace h:=aS h e;obtain⟨a,d,h⟩:=h;have:=T.gW d;subst this;simp only [az] at b;subst b;exact⟨_,_,h,by first | exact hF _ _ | exact oT _ | exact mW _,by simp [Op.unary,Op.intArith]⟩
 .replace h:=aS h e;obtain⟨a,d,h⟩:=h;have:=T.gW d;subst this;simp only [az] at b;subst b;exact⟨_,_,h,by first | exact hF _ _ | exact oT _ | exact mW _,by simp [Op.unary,Op.intBits]⟩
 .replace h:=aS h e;obtain⟨a,d,h⟩:=h;have:=T.jG d;subst this;simp only [az] at b;subst b;exact⟨_,_,h,by first | exact hF _ _ | exact oT _ | exact mW _,by simp [Op.unary]⟩
 .simp at h
theorem O6{R:Type}{d:Nat}{t:TypeId}{c:Option Bool}{x y:T}{K:Bool->Option R}{r:R}{m n:Value}(e:c=none\/c=some true)
  (f:az w A x m) (g:az w A y n) (h:mI P c t x y K=some r):∃b,K b=some r/\(Op.equalIn (d+1) t m n).run P w= .ok b w:=by
 unfold mI at h;split at h
 .rename_i k l;replace h:=aS h e;obtain⟨a,i,h⟩:=h;replace h:=aS h e;obtain⟨b,j,h⟩:=h;have:=T.gW i;subst this;have:=T.gW j;subst this;simp only [az] at f g;subst f;subst g;exact⟨_,h,by simp [Op.equalIn,run_underlying l]⟩
 .rename_i l;replace h:=aS h e;obtain⟨a,i,h⟩:=h;replace h:=aS h e;obtain⟨b,j,h⟩:=h;have:=T.jG i;subst this;have:=T.jG j;subst this;simp only [az] at f g;subst f;subst g;exact⟨_,h,by simp [Op.equalIn,run_underlying l]⟩
 .rename_i l;replace h:=aS h e;obtain⟨a,i,h⟩:=h;replace h:=aS h e;obtain⟨b,j,h⟩:=h;have:=T.lS i;subst this;have:=T.lS j;subst this;simp only [az] at f g;subst f;subst g;exact⟨_,h,by simp [Op.equalIn,run_underlying l]⟩
 .simp at h
theorem By{R:Type}{c:Option Bool}(d:List TypeId):∀(ts:List TypeId) (xs a:List T) (K:Bool->Option R),
  fm P c (ts++d) xs a K=fm P c ts (xs.take ts.length) (a.take ts.length) (λq=>fm P c d (xs.drop ts.length) (a.drop ts.length) λe=>K (q && e))
 | [],xs,a,K=>by simp [fm]
 | t::ts,[],a,K=>by simp [fm]
 | t::ts,x::xs,[],K=>by simp [fm]
 | t::ts,x::xs,y::a,K=>by simp only [Xp,Wz,YV,List.drop_succ_cons,fm];congr 1;funext b;rw [By d ts xs a];simp only [Bool.and_assoc]
theorem aY.take{cs:List T}{vs:List Value}(h:aY w A cs vs):∀n,aY w A (cs.take n) (vs.take n):=by
 intro n;induction n generalizing cs vs with
 | zero=>simp [aY]
 | succ n d=>
  cases cs with
  | nil=>simp only [aY] at h;subst h;simp [aY]
  | cons c cs=>obtain⟨v,r,rfl,a,b⟩:=h;exact⟨v,r.take n,rfl,a,d b⟩
theorem aY.drop{cs:List T}{vs:List Value}(h:aY w A cs vs):∀n,aY w A (cs.drop n) (vs.drop n):=by
 intro n;induction n generalizing cs vs with
 | zero=>simpa using h
 | succ n b=>
  cases cs with
  | nil=>simp only [aY] at h;subst h;simp [aY]
  | cons c cs=>obtain⟨v,r,rfl,d,a⟩:=h;exact b a
end
open Go Go.IntKind
section
variable {P:Program} {w:World} {A:Nat->Prop}
def lX(P:Program)(t:TypeId)(vs:List Value):Value:=if bW P t=true then .agg vs.toArray else vs.headD undef
theorem wS{t:TypeId}(b:cx P t=true)(xs:Array Value)(off:Nat)(d:bW P t=false->P.cellsOf t=1)(e:off+P.cellsOf t<=xs.size)(w:World):
  (part t xs off).run P w= .ok (lX P t ((xs.toList.drop off).take (P.cellsOf t))) w:=by
 unfold part lX;simp only [WR,uo b,WD];cases f:bW P t
 .simp only [WX,if_false];rw [d f] at e⊢;have a:off < xs.size:=by omega
  have:xs[off]? =some xs[off]:=Yc a;rw [this];have hl:off < xs.toList.length:=by simpa using a
  rw [Yx hl];simp
 .simp only [if_true,WR,jS b,WD,W9];congr 2;apply Yb;simp [YO,YW]
theorem aY.part{xs:List T}{vs:List Value}(h:aY w A xs vs)(off n:Nat):aY w A ((xs.drop off).take n) ((vs.drop off).take n):=(h.drop off).take n
theorem tC{R:Type}{c:Option Bool}(a:c=none\/c=some true):∀{ts:List TypeId} {xs d:List T} {K:Bool->Option R} {r:R},fm P c ts xs d K=some r->xs.length=ts.length/\d.length=ts.length
 | [],[],[],_,_,_=>⟨rfl,rfl⟩
 | t::ts,x::xs,y::d,K,r,h=>by
  simp only [fm] at h;have:∃b,fm P c ts xs d (λr=>K (b && r))=some r:=by
   unfold mI at h;split at h
   .replace h:=aS h a;obtain⟨_,_,h⟩:=h;replace h:=aS h a;obtain⟨_,_,h⟩:=h;exact⟨_,h⟩
   .replace h:=aS h a;obtain⟨_,_,h⟩:=h;replace h:=aS h a;obtain⟨_,_,h⟩:=h;exact⟨_,h⟩
   .replace h:=aS h a;obtain⟨_,_,h⟩:=h;replace h:=aS h a;obtain⟨_,_,h⟩:=h;exact⟨_,h⟩
   .simp at h
  obtain⟨b,g⟩:=this;obtain⟨e,f⟩:=tC a g;simp [e,f]
 | [],[],_::_,_,_,h=>by simp [fm] at h
 | [],_::_,_,_,_,h=>by simp [fm] at h
 | _::_,[],_,_,_,h=>by simp [fm] at h
 | _::_,_::_,[],_,_,h=>by simp [fm] at h
theorem rG{n:Nat}{t:TypeId}{ts:List TypeId}(h:gB P n t=some ts):cx P t=true:=by
 cases n with
 | zero=>simp [gB] at h
 | succ n=>
  simp only [gB] at h;unfold cx;cases a:P.underlying t with
  | none=>simp [a] at h
  | some d=>rfl
theorem GU{n:Nat}{t:TypeId}{ts:List TypeId}(h:gB P n t=some ts)(a:bW P t=false):ts= [t]:=by
 cases n with
 | zero=>simp [gB] at h
 | succ n=>
  simp only [gB] at h;unfold bW at a;cases b:P.underlying t with
  | none=>simp [b] at h
  | some d=>cases d <;> simp_all
def z8(P:Program)(w:World)(A:Nat->Prop)(n:Nat):Prop:= ∀(t:TypeId) (ts:List TypeId),gB P n t=some ts->∀(d:Nat),n<=d->
 ∀(R:Type) (c:Option Bool),c=none\/c=some true->∀(xs f:List T) (a e:List Value) (K:Bool->Option R) (r:R),aY w A xs a->aY w A f e->fm P c ts xs f K=some r->
  ∃b,K b=some r/\(Op.equalIn d t (lX P t a) (lX P t e)).run P w= .ok b w
theorem GC{n d:Nat}(B:z8 P w A n)(z:n<=d){X Y:Array Value}{R:Type}{c:Option Bool}(i:c=none\/c=some true):
  ∀(e:List Field) (off:Nat) (ts:List TypeId),tI P (gB P n) e off=some ts->∀(xs o:List T) (K:Bool->Option R) (r:R),aY w A xs (X.toList.drop off)->aY w A o (Y.toList.drop off)->
   fm P c ts xs o K=some r->∃b,K b=some r/\(Op.eqFields d X Y e).run P w= .ok b w
 | [],off,ts,h,xs,o,K,r,k,m,a=>by simp only [tI,Wj] at h;subst h;obtain⟨F,G⟩:=tC i a;have:=WT.1 F;subst this;have:=WT.1 G;subst this;exact⟨true,by simpa [fm] using a,by simp [Op.eqFields]⟩
 | f::e,off,ts,h,xs,o,K,r,k,m,a=>by
  simp only [tI] at h;by_cases j:f.offset=off/\f.name≠ "_"
  .rw [if_pos j] at h;cases hl:gB P n f.type with
   | none=>simp [hl] at h
   | some l=>
    simp only [hl,Wq] at h;by_cases g:P.cellsOf f.type=l.length/\0 < l.length
    .rw [if_pos g] at h;obtain⟨hs,I⟩:=g;cases u:tI P (gB P n) e (off+l.length) with
     | none=>simp [u] at h
     | some q=>
      simp only [u,Wq,Wj] at h;subst h;obtain⟨J,L⟩:=tC i a;simp only [Xc] at J L;rw [By] at a;obtain⟨v,x,D⟩:=B f.type l hl d z R c i _ _ _ _ _ _ (k.take l.length) (m.take l.length) a;have p:=k.drop l.length;have t:=m.drop l.length;rw [Zi] at p t;obtain⟨C,y,E⟩:=GC B z i e (off+l.length) q u _ _ _ _ p t x;have sx:=k.length;have M:=m.length;simp only [XK,WY] at sx M;have one:bW P f.type=false->P.cellsOf f.type=1:=λH=>by rw [hs,GU hl H];rfl
      refine⟨v && C,y, ?_⟩;simp only [Op.eqFields,ne_eq,j.2,not_false_eq_true,if_true,WR];rw [j.1,wS (rG hl) X off one (by rw [hs];omega) w];simp only [WD];rw [wS (rG hl) Y off one (by rw [hs];omega) w];simp only [WD,hs,D];cases v
      .simp
      .simp [E]
    .rw [if_neg g] at h;simp at h
  .rw [if_neg j] at h;simp at h
theorem GD{n d:Nat}(D:z8 P w A n)(C:n<=d){X Y:Array Value}{R:Type}{c:Option Bool}(i:c=none\/c=some true){e:TypeId}{l:List TypeId}(hl:gB P n e=some l)(hs:P.cellsOf e=l.length):
  ∀(m k:Nat) (xs p:List T) (K:Bool->Option R) (r:R),aY w A xs (X.toList.drop (k * P.cellsOf e))->aY w A p (Y.toList.drop (k * P.cellsOf e))->
   fm P c (List.replicate m l).flatten xs p K=some r->∃b,K b=some r/\(Op.eqItems d e (P.cellsOf e) X Y (List.range' k m)).run P w= .ok b w
 | 0,k,xs,p,K,r,j,o,a=>by obtain⟨F,G⟩:=tC i a;have:=WT.1 F;subst this;have:=WT.1 G;subst this;exact⟨true,by simpa [fm] using a,by simp [Op.eqItems]⟩
 | m+1,k,xs,p,K,r,j,o,a=>by
  simp only [XQ,X8] at a;obtain⟨I,J⟩:=tC i a;simp only [Xc] at I J;rw [By] at a;obtain⟨g,B,f⟩:=D e l hl d C R c i _ _ _ _ _ _ (j.take l.length) (o.take l.length) a;have t:=j.drop l.length;have u:=o.drop l.length;have H:k * P.cellsOf e+l.length= (k+1) * P.cellsOf e:=by rw [hs,Xw]
  rw [Zi,H] at t u;obtain⟨z,q,v⟩:=GD D C i hl hs m (k+1) _ _ _ _ t u B;have sx:=j.length;have E:=o.length;simp only [XK,WY] at sx E;have one:bW P e=false->P.cellsOf e=1:=λy=>by rw [hs,GU hl y];rfl
  by_cases h0:l.length=0
  ·
   refine⟨g && z,q, ?_⟩;have x:bW P e=true:=by
    cases y:bW P e
    .have:=one y;omega
    .rfl
   have L:∀(Z:Array Value) (w:World),(part e Z (k * P.cellsOf e)).run P w= .ok (lX P e []) w:=by intro Z w;unfold part lX;simp only [WR,uo (rG hl),WD,x,if_true,jS (rG hl),W9,hs,h0];simp
   simp only [Yk,Op.eqItems,WR,L,WD];rw [h0] at f;simp only [ZE] at f;rw [f];cases g
   .simp
   .simp [v]
  .refine⟨g && z,q, ?_⟩;simp only [Yk,Op.eqItems,WR];rw [wS (rG hl) X _ one (by rw [hs] at sx⊢;omega) w];simp only [WD];rw [wS (rG hl) Y _ one (by rw [hs] at E⊢;omega) w];simp only [WD,hs];rw [hs] at f v;simp only [f,WD];cases g
   .simp
   .simp [v]
theorem Bz:∀n,z8 P w A n
 | 0=>by intro t ts h;simp [gB] at h
 | n+1=>by
  intro t ts h d Y R c k xs o V W K r B C j;obtain⟨d,rfl⟩:∃N,d=N+1:=⟨d - 1,by omega⟩;have M:=Bz n;simp only [gB] at h;have a:bW P t=false->ts= [t]->∃b,K b=some r/\(Op.equalIn (d+1) t (lX P t V) (lX P t W)).run P w= .ok b w:=by
   intro T L;subst L;obtain⟨D,E⟩:=tC k j;cases xs with
   | nil=>simp at D
   | cons x xs=>cases o with
    | nil=>simp at E
    | cons y o=>simp only [Wz,WN,WZ,Nat.add_eq_right,WT] at D E;subst D;subst E;obtain⟨v,q,rfl,Q,hq⟩:=B;obtain⟨u,p,rfl,S,Z⟩:=C;simp only [fm,XF] at j;simpa [lX,T] using O6 (d:=d) k Q S j
  cases f:P.underlying t with
  | none=>simp [f] at h
  | some ds=>
   cases ds <;> simp only [f,reduceCtorEq,Wj] at h
   case int=>exact a (by simp [bW,f]) h.symm
   case bool=>exact a (by simp [bW,f]) h.symm
   case string=>exact a (by simp [bW,f]) h.symm
   case struct F=>
    split at h
    .simp at h
    .rename_i J;have g:bW P t=true:=by simp [bW,f]
     have H:P.underlying t=some (.struct (P.fieldsOf t)):=by simp [Program.fieldsOf,f]
     have I:P.fieldsOf t=F:=by simp [Program.fieldsOf,f]
     simp only [lX,g,if_true];rw [run_equalIn_struct w d t _ _ H (by simpa using J),I];exact GC M (by omega) k F.toList 0 ts h xs o K r (by simpa using B) (by simpa using C) j
   case array m e=>
    cases hl:gB P n e with
    | none=>simp [hl] at h
    | some l=>
     simp only [hl,Wq] at h;split at h
     .rename_i hs;simp only [Wj] at h;subst h;have g:bW P t=true:=by simp [bW,f]
      have z:=rG hl;unfold cx at z;obtain⟨X,G⟩:=X5.1 z;obtain⟨i,U,_⟩:=yI G;simp only [lX,g,if_true];rw [run_equalIn_array w d _ _ f U,Zd];exact GD M (by omega) k hl hs m 0 xs o K r (by simpa using B) (by simpa using C) j
     .simp at h
theorem Gy{R:Type}{ρ:Id->Option Value}{t:TypeId}{c:Option Bool}{x y:AV}{K:Bool->Option R}{r:R}{v z:Value}(l:c=none\/c=some true)
  (f:ao w A ρ x v) (g:ao w A ρ y z) (h:rD P c t x y K=some r) (B C:Operand):
  ∃b,K b=some r/\((eqGuard .eql t B C v z).run P w= .ok () w/\(binOp .eql t v z).run P w= .ok (.bool b) w)/\((eqGuard .neq t B C v z).run P w= .ok () w/\(binOp .neq t v z).run P w= .ok (.bool (!b)) w):=by
 unfold rD at h;split at h
 .rename_i x y;simp only [ao] at f g;cases p:BT P t
  .simp only [p,cond_false] at h;have d:=h;unfold mI at d;split at d
   .rename_i k u;replace d:=aS d l;obtain⟨a,o,d⟩:=d;replace d:=aS d l;obtain⟨b,j,d⟩:=d;have:=T.gW o;subst this;have:=T.gW j;subst this;simp only [az] at f g;subst f;subst g;exact⟨_,d,⟨by simp [eqGuard],by simp [binOp,Op.intCmp]⟩,⟨by simp [eqGuard],by simp [binOp,Op.intCmp,bne]⟩⟩
   .rename_i u;replace d:=aS d l;obtain⟨a,o,d⟩:=d;replace d:=aS d l;obtain⟨b,j,d⟩:=d;have:=T.jG o;subst this;have:=T.jG j;subst this;simp only [az] at f g;subst f;subst g;exact⟨_,d,⟨by simp [eqGuard],run_eql_bool w t a b u⟩,⟨by simp [eqGuard],run_neq_bool w t a b u⟩⟩
   .rename_i u;simp [BT,u] at p
   .simp at d
  .simp only [p,cond_true] at h;replace h:=aS h l;obtain⟨a,o,h⟩:=h;replace h:=aS h l;obtain⟨b,j,h⟩:=h;have:=T.lS o;subst this;have:=T.lS j;subst this;simp only [az] at f g;subst f;subst g;exact⟨_,h,⟨by simp [eqGuard],by simp [binOp,Op.stringOp]⟩,⟨by simp [eqGuard],by simp [binOp,Op.stringOp]⟩⟩
 .rename_i xs J;cases m:(P.eqGuardType P.depth t || !bW P t)
  .simp only [m,cond_false] at h;simp only [Xq,Yp] at m;obtain⟨m,E⟩:=m;cases i:eV xs with
   | none=>simp [i] at h
   | some F=>
    cases n:eV J with
    | none=>simp [i,n] at h
    | some G=>
     cases q:gB P 8 t with
     | none=>simp [i,n,q] at h
     | some ts=>simp only [i,n,q,Wq] at h;simp only [ao] at f g;obtain⟨H,rfl,f,_⟩:=f;obtain⟨I,rfl,g,_⟩:=g;have D:bW P t=true:=E;obtain⟨b,j,e⟩:=Bz 8 t ts q 10000 (by omega) R c l F G H I K r (aY.mh i f) (aY.mh n g) h;simp only [lX,D,if_true] at e;exact⟨b,j,⟨run_eqGuard_agg w .eql t B C _ _ m,by rw [run_eql_struct,e];rfl⟩,⟨run_eqGuard_agg w .neq t B C _ _ m,by rw [run_neq_struct,e];rfl⟩⟩
  .simp [m] at h
 .simp at h
end
open Go Go.IntKind
section
variable {P:Program} {w w':World} {A A':Nat->Prop} {c:Ctx} {ρ:Id->Option Value} {O:Id->Option Nat} {s:St} {cc:Option Bool}
theorem iD(b o j:Nat):(⟨b,o,none⟩:Addr).add j= ⟨b,o+j,none⟩:=by
 unfold Addr.add;split
 .rename_i h;subst h;rfl
 .rfl
theorem bh.bC{ah:Nat}:∀{off:Nat} {cs:List T},bh w A ah off cs->∃vs,aY w A cs vs/\∀j v,vs[j]? =some v->w.cell? ⟨ah,off+j,none⟩=some v
 | _,[],_=>⟨[],rfl,by simp⟩
 | off,x::cs,h=>by
  simp only [bh] at h;obtain⟨⟨v,i,g⟩,b⟩:=h;obtain⟨vs,d,f⟩:=bh.bC b;refine⟨v::vs,⟨v,vs,rfl,g,d⟩, ?_⟩;intro j u a;cases j with
  | zero=>simp at a;subst a;exact i
  | succ j=>
   have:=f j u (by simpa using a);have e:off+1+j=off+ (j+1):=by omega
   rw [e] at this;exact this
theorem aY.one:∀{cs:List T} {vs:List Value},aY w A cs vs->∀u∈vs,u.oneCell'=true/\u.cells= #[u]
 | [],vs,h,u,hu=>by simp only [aY] at h;subst h;cases hu
 | x::cs,vs,⟨v,r,e,a,b⟩,u,hu=>by
  subst e;rcases WC.1 hu with rfl | hu
  .exact a.r6
  .exact aY.one b u hu
theorem zM{R:Type}(b:cc=none\/cc=some true):∀{n:Nat} {cs:List T} {K:List T->Option R} {r:R},qA cc n cs K=some r->∃l,l=cs.take n/\l.length=n/\K l=some r
 | 0,cs,K,r,h=>⟨[],by simp,rfl,h⟩
 | n+1,cs,K,r,h=>by
  simp only [qA] at h;replace h:=aS h b;obtain⟨x,a,h⟩:=h;obtain⟨l,d,e,f⟩:=zM b h;cases cs with
  | nil=>simp at a
  | cons y cs=>simp only [XM,Wj] at a;subst a;exact⟨y::l,by simp [d],by simp [e],f⟩
theorem Dm:∀{n:Nat} {cs l:List AV},n6 n cs=some l->l=cs.take n/\l.length=n
 | 0,cs,l,h=>by simp only [n6,Wj] at h;subst h;simp
 | n+1,[],l,h=>by simp [n6] at h
 | n+1,x::cs,l,h=>by
  simp only [n6] at h;cases a:n6 n cs with
  | none=>simp [a] at h
  | some q=>simp only [a,Wq,Wj] at h;subst h;obtain⟨b,d⟩:=Dm a;exact⟨by simp [b],by simp [d]⟩
theorem CY{t:TypeId}(a:cx P t=true)(d:bW P t=true)(b off:Nat)(vs:List Value)(hl:vs.length=P.cellsOf t)(h:∀j v,vs[j]? =some v->w.cell? ⟨b,off+j,none⟩=some v):
  (loadVar t ⟨b,off,none⟩).run P w= .ok (.agg vs.toArray) w:=by
 unfold loadVar;simp only [WR,uo a,WD,d,if_true,jS a,<-hl];rw [run_loadCells_list w ⟨b,off,none⟩ vs (λj v e=>by rw [iD];exact h j v e)];rfl
theorem zw{t:TypeId}(d:cx P t=true)(a:bW P t=false)(b off:Nat)(v:Value)(h:w.cell? ⟨b,off,none⟩=some v):
  (loadVar t ⟨b,off,none⟩).run P w= .ok v w:=by
 unfold loadVar;simp only [WR,uo d,WD,a,WX,if_false];rw [run_load,h]
theorem qC{R:Type}{k:Ck}{x:T}{v:Value}{K:T->Option R}{r:R}(e:cc=none\/cc=some true)(a:az w A x v)(h:fX k cc x K=some r):
  ∃y,K y=some r/\az w A y v:=by
 unfold fX at h;cases k with
 | i k=>simp only at h;replace h:=aS h e;obtain⟨n,d,h⟩:=h;rw [T.gW d] at a;exact⟨_,h,a⟩
 | b=>simp only at h;replace h:=aS h e;obtain⟨n,d,h⟩:=h;rw [T.jG d] at a;exact⟨_,h,a⟩
 | s=>simp only at h;replace h:=aS h e;obtain⟨n,d,h⟩:=h;rw [T.lS d] at a;exact⟨_,h,a⟩
 | l sz=>
  simp only at h;replace h:=aS h e;obtain⟨p,j,h⟩:=h;refine⟨_,h, ?_⟩;rcases T.rU j with rfl | ⟨rfl,g⟩
  .exact a
  .rw [g];simp only [az] at a⊢;rcases a with⟨f,rfl⟩ | ⟨f,ah,off,sp,rfl⟩
   .exact .inl ⟨f,trivial,rfl⟩
   .exact .inr ⟨f,ah,off,sp,0,rfl,by simp, .inl trivial,trivial⟩
 | x=>exact⟨_,h,a⟩
theorem w7{R:Type}(d:cc=none\/cc=some true):∀{ks:List Ck} {xs:List T} {vs:List Value} {K:List T->Option R} {r:R},aY w A xs vs->fM cc ks xs K=some r->
  ∃b,K b=some r/\aY w A b vs
 | [],xs,vs,K,r,a,h=>⟨_,h,a⟩
 | _::_,[],vs,K,r,a,h=>⟨_,h,a⟩
 | k::ks,x::xs,vs,K,r,a,h=>by obtain⟨v,q,rfl,f,g⟩:=a;simp only [fM] at h;obtain⟨y,h,g1⟩:=qC d f h;obtain⟨b,h,e⟩:=w7 d g h;exact⟨_,h,⟨v,q,rfl,g1,e⟩⟩
theorem UN{R:Type}{k:Ck}{x:T}{K:T->Option R}{r:R}(d:cc=none\/cc=some true)(h:fX k cc x K=some r):
  ∃y,K y=some r/\∀(w:World) (A:Nat->Prop) (v:Value),az w A x v->az w A y v:=by
 have e:fX k cc x K= (fX k cc x some).bind K:=by rw [o9];rfl
 rw [e] at h;obtain⟨y,f,h⟩:=Wk.1 h;refine⟨y,h,λw A v a=> ?_⟩;obtain⟨z,b,a⟩:=qC d a f;simp only [Wj] at b;subst b;exact a
theorem UO{R:Type}{ks:List Ck}{xs:List T}{K:List T->Option R}{r:R}(d:cc=none\/cc=some true)(h:fM cc ks xs K=some r):
  ∃y,K y=some r/\∀(w:World) (A:Nat->Prop) (vs:List Value),aY w A xs vs->aY w A y vs:=by
 have e:fM cc ks xs K= (fM cc ks xs some).bind K:=by rw [uF];rfl
 rw [e] at h;obtain⟨y,f,h⟩:=Wk.1 h;refine⟨y,h,λw A v a=> ?_⟩;obtain⟨z,b,a⟩:=w7 d a f;simp only [Wj] at b;subst b;exact a
theorem UQ{R:Type}{t:TypeId}{v:AV}{K:AV->Option R}{r:R}(b:cc=none\/cc=some true)(h:n7 P cc t v K=some r):
  ∃y,K y=some r/\∀(w:World) (A:Nat->Prop) (ρ:Id->Option Value) (u:Value),ao w A ρ v u->ao w A ρ y u:=by
 unfold n7 at h;split at h
 .obtain⟨y,h,g⟩:=UN b h;exact⟨_,h,λw A ρ u a=>by simp only [ao] at a⊢;exact g w A u a⟩
 .rename_i vs;split at h
  .rename_i l hl;obtain⟨y,h,g⟩:=UO b h;refine⟨_,h,λw A ρ u a=> ?_⟩;simp only [ao] at a⊢;obtain⟨d,e,f,i⟩:=a;exact⟨d,e,aC.mR (g w A d (aY.mh hl f)),i⟩
  .exact⟨_,h,λw A ρ u a=>a⟩
 .exact⟨_,h,λw A ρ u a=>a⟩
theorem zT{R:Type}(b:cc=none\/cc=some true):∀{ts:List TypeId} {vs:List AV} {K:List AV->Option R} {r:R},jW P cc ts vs K=some r->
  ∃y,K y=some r/\∀(w:World) (A:Nat->Prop) (ρ:Id->Option Value) (us:List Value),aC w A ρ vs us->aC w A ρ y us
 | [],vs,K,r,h=>⟨_,h,λw A ρ u a=>a⟩
 | _::_,[],K,r,h=>⟨_,h,λw A ρ u a=>a⟩
 | t::ts,v::vs,K,r,h=>by simp only [jW] at h;obtain⟨y,h,g1⟩:=UQ b h;obtain⟨i,h,d⟩:=zT b h;refine⟨_,h,λw A ρ us a=> ?_⟩;simp only [aC] at a⊢;obtain⟨u,q,e,f,g⟩:=a;exact⟨u,q,e,g1 w A ρ u f,d w A ρ q g⟩
theorem yT{R:Type}{t:TypeId}(n:cx P t=true){b off:Nat}{cs:List T}{K:AV->Option R}{r:R}(e:cc=none\/cc=some true)(B:bh w A b off cs)(h:mf P t cc cs K=some r):
  ∃i v,K i=some r/\(loadVar t ⟨b,off,none⟩).run P w= .ok v w/\ao w A ρ i v:=by
 obtain⟨vs,k,m⟩:=B.bC;unfold mf at h;cases d:bW P t
 .simp only [d,cond_false] at h;replace h:=aS h e;obtain⟨x,g,h⟩:=h;cases cs with
  | nil=>simp at g
  | cons y cs=>simp only [XM,Wj] at g;subst g;obtain⟨v,q,rfl,a,_⟩:=k;obtain⟨z,h,a⟩:=qC e a h;exact⟨_,v,h,zw n d b off v (by simpa using m 0 v rfl),by simpa [ao] using a⟩
 .simp only [d,cond_true] at h;obtain⟨l,hl,u,h⟩:=zM e h;have a:=k.take (P.cellsOf t);rw [<-hl] at a;have o:=a.length;obtain⟨C,h,p⟩:=w7 e a h;refine⟨_,_,h,CY n d b off _ (by rw [o,u]) (λj v f=>m j v ?_), ?_⟩
  .rw [Yq] at f;split at f
   .exact f
   .cases f
  .simp only [ao];exact⟨_,rfl,aC.mR p,a.one⟩
theorem Qc{R:Type}{t:TypeId}(m:cx P t=true){b off:Nat}{cs:List AV}{vs:List Value}{K:AV->Option R}{r:R}(g:aC w A ρ cs vs)(n:∀u∈vs,u.oneCell'=true/\u.cells= #[u])
  (k:∀j v,vs[j]? =some v->w.cell? ⟨b,off+j,none⟩=some v) (h:nR P t cs K=some r):
  ∃i v,K i=some r/\(loadVar t ⟨b,off,none⟩).run P w= .ok v w/\ao w A ρ i v:=by
 unfold nR at h;cases d:bW P t
 .simp only [d,cond_false] at h;cases cs with
  | nil=>simp at h
  | cons y cs=>simp only [XM,Wq] at h;simp only [aC] at g;obtain⟨v,q,rfl,a,_⟩:=g;exact⟨_,v,h,zw m d b off v (by simpa using k 0 v rfl),a⟩
 .simp only [d,cond_true] at h;cases f:n6 (P.cellsOf t) cs with
  | none=>simp [f] at h
  | some l=>
   simp only [f,Wq] at h;obtain⟨hl,p⟩:=Dm f;have a:=g.take (P.cellsOf t);rw [<-hl] at a;have o:=a.length;refine⟨_,_,h,CY m d b off _ (by rw [o,p]) (λj v e=>k j v ?_), ?_⟩
   .rw [Yq] at e;split at e
    .exact e
    .cases e
   .simp only [ao];exact⟨_,rfl,a,λu x=>n u (Yy x)⟩
theorem Ay{i:Id}{cs:List AV}(hs:HS c w s.h ρ O)(k:s.h i=some (.box cs)):∃b arr t,ρ i=some (.pointer (some ⟨b,0,none⟩))/\O i=some b/\w.heap[b]? =some (.cells arr t (0,0))/\
  aC w (AA c w O) ρ cs arr.toList/\(∀u∈arr.toList,u.oneCell'=true/\u.cells= #[u])/\∀j v,arr.toList[j]? =some v->w.cell? ⟨b,j,none⟩=some v:=by
 obtain⟨b,arr,t,d,e,a,f,g⟩:=hs.ah i _ k;refine⟨b,arr,t,d,e,a,f,g,λj v l=> ?_⟩;simp only [World.cell?,a];simpa using l
theorem sv{i:Id}{fz b:Bool}{sz:Nat}{l:List (List T)}(hs:HS c w s.h ρ O)(e:s.h i=some (.sl fz sz b l)):∃v,ρ i=some v/\dm w (AA c w O) sz b l v (λah=>if fz=true then AA c w O ah else O i=some ah):=by obtain⟨v,a,d,_⟩:=hs.ah i _ e;exact⟨v,a,d⟩
theorem cI.get{i:Id}{ah sz col rsz:Nat}:∀{es:List Row} {base k:Nat} {e:Row},cI w A ρ O i ah sz col rsz base es->es[k]? =some e->jB w A ρ O i ah sz col rsz (base+k * sz) e
 | [],_,_,_,_,h=>by simp at h
 | x::es,base,0,e,a,h=>by simp only [W7,Wj] at h;subst h;simpa using a.1
 | x::es,base,k+1,e,a,h=>by have:=cI.get a.2 (k:=k) (by simpa using h);rw [show base+ (k+1) * sz=base+sz+k * sz by rw [Xw];omega];exact this
theorem cI.own{i:Id}{ah sz col rsz n:Nat}{p:Bool×List (List T)}:∀{es:List Row} {base:Nat},cI w A ρ O i ah sz col rsz base es->cP n es=some p->∃v,ρ (.g i n)=some v/\dm w A rsz p.1 p.2 v (λb=>O (.g i n)=some b)
 | [],_,_,h=>by simp [cP] at h
 | e::es,base,f,h=>by
  unfold cP at h;split at h
  .rename_i en;obtain⟨_,_,_,v,_,d,a⟩:=f.1;rw [h] at a;rw [en] at d a;exact⟨v,d,a⟩
  .exact cI.own f.2 h
theorem zr{i:Id}{b:Bool}{sz col rsz j n:Nat}{es:List Row}{p:Bool×List (List T)}(hs:HS c w s.h ρ O)(f:s.h i=some (.rows b sz col rsz j es))(e:cP n es=some p):
  ∃v,ρ (.g i n)=some v/\dm w (AA c w O) rsz p.1 p.2 v (λb=>O (.g i n)=some b):=by
 obtain⟨a,cap,l,m,o,q,d⟩:=hs.ah i _ f;rcases d with d | ⟨ah,off,arr,t,r,u,x,y,k⟩
 .have:es= []:=WT.1 (by omega);subst this;simp [cP] at e
 .exact k.own e
theorem CU{R:Type}{i:Id}{n:Nat}{K:Nat->Bool->List (List T)->Option R}{r:R}(hs:HS c w s.h ρ O)(e:cc=none\/cc=some true)(h:na s.h cc i n K=some r):
  ∃rsz b xs v,K rsz b xs=some r/\ρ (.g i n)=some v/\dm w (AA c w O) rsz b xs v (λah=>O (.g i n)=some ah):=by
 unfold na at h;split at h
 .rename_i f;replace h:=aS h e;obtain⟨p,j,h⟩:=h;obtain⟨v,a,d⟩:=zr hs f j;exact⟨_,_,_,v,h,a,d⟩
 .cases h
theorem jB.bC{i:Id}{ah sz col rsz base:Nat}{e:Row}(h:jB w A ρ O i ah sz col rsz base e):∃vs:List Value,vs.length=sz/\(∀j v,vs[j]? =some v->w.cell? ⟨ah,base+j,none⟩=some v)/\
  (∀j x v,j≠col->e.cs[j]? =some x->vs[j]? =some v->az w A x v)/\∃v,vs[col]? =some v/\ρ (.g i e.n)=some v:=by
 obtain⟨C,r,f,v,l,t,D⟩:=h;have m:∀j,j < sz->∃u,w.cell? ⟨ah,base+j,none⟩=some u:=by
  intro j a;by_cases d:j=col
  .subst d;exact⟨v,l⟩
  .obtain⟨u,g,_⟩:=f j (e.cs[j]'(by omega)) d (Wv _);exact⟨u,g⟩
 have get:∀j u,((List.range sz).map λj=>(w.cell? ⟨ah,base+j,none⟩).getD undef)[j]? =some u->w.cell? ⟨ah,base+j,none⟩=some u:=by intro j u a;rw [Xh] at a;obtain⟨k,b,a⟩:=Ym.1 a;obtain⟨o,b⟩:=Wm.1 b;rw [List.getElem_range] at b;subst b;obtain⟨B,p⟩:=m j (by simpa using o);rw [p] at a⊢;simpa using a
 refine⟨_,by simp,get,λj x u a z y=> ?_,v, ?_,t⟩
 .obtain⟨B,g1,q⟩:=f j x a z;rw [get j u y] at g1;cases g1;exact q
 .rw [Xh,List.getElem?_range r];simp [l]
theorem aC.wC:∀{b:List AV} {vs:List Value},b.length=vs.length->(∀(j:Nat) (a:AV) (v:Value),b[j]? =some a->vs[j]? =some v->ao w A ρ a v)->aC w A ρ b vs
 | [],[],_,_=>by simp [aC]
 | [],_::_,h,_=>by simp at h
 | _::_,[],h,_=>by simp at h
 | a::b,v::vs,h,d=>by simp only [aC];exact⟨v,vs,rfl,d 0 a v rfl rfl,aC.wC (by simpa using h) λj a v e f=>d (j+1) a v (by simpa using e) (by simpa using f)⟩
theorem KN{R:Type}(o:cc=none\/cc=some true):∀{ks:List Ck} {xs:List T} {vs:List Value} {col:Nat} {K:List T->Option R} {r:R},xs.length=vs.length->(∀(j:Nat) (x:T) (v:Value),j≠col->xs[j]? =some x->vs[j]? =some v->az w A x v)->
  (∀k,ks[col]? =some k->k= .x)->fM cc ks xs K=some r->∃b,K b=some r/\b.length=vs.length/\∀j x v,j≠col->b[j]? =some x->vs[j]? =some v->az w A x v
 | [],xs,vs,col,K,r,hl,d,i,h=>⟨xs,h,hl,d⟩
 | k::ks,[],vs,col,K,r,hl,d,i,h=>⟨[],h,hl,by simp⟩
 | k::ks,x::xs,[],col,K,r,hl,d,i,h=>by simp at hl
 | k::ks,x::xs,v::vs,0,K,r,hl,d,i,h=>by
  simp only [fM] at h;have:k= .x:=i k rfl;subst this;simp only [fX] at h;have C:aY w A xs vs:=by
   have z:∀(xs:List T) (vs:List Value),xs.length=vs.length->(∀(j:Nat) (x:T) (v:Value),xs[j]? =some x->vs[j]? =some v->az w A x v)->aY w A xs vs:=by
    intro xs;induction xs with
    | nil=>intro vs hl _;cases vs;rfl;simp at hl
    | cons x xs t=>
     intro vs hl d;cases vs with
     | nil=>simp at hl
     | cons v vs=>exact⟨v,vs,rfl,d 0 x v rfl rfl,t vs (by simpa using hl) λj x v e f=>d (j+1) x v (by simpa using e) (by simpa using f)⟩
   exact z xs vs (by simpa using hl) λj x v e f=>d (j+1) x v (by omega) (by simpa using e) (by simpa using f)
  obtain⟨b,h,g⟩:=w7 o C h;have F:=g.length;refine⟨_,h,by simp;omega,λj y u p m l=> ?_⟩;cases j with
  | zero=>exact(p rfl).elim
  | succ j=>
   simp only [XH] at m l;have:∀(b:List T) (vs:List Value) (j:Nat),aY w A b vs->b[j]? =some y->vs[j]? =some u->az w A y u:=by
    intro b;induction b with
    | nil=>intro vs j _ h;simp at h
    | cons a b t=>
     rintro vs j ⟨G,q,rfl,g1,n⟩ e f;cases j with
     | zero=>simp at e f;subst e;subst f;exact g1
     | succ j=>exact t q j n (by simpa using e) (by simpa using f)
   exact this b vs j g m l
 | k::ks,x::xs,v::vs,col+1,K,r,hl,d,i,h=>by
  simp only [fM] at h;obtain⟨y,h,g1⟩:=qC o (d 0 x v (by omega) rfl rfl) h;obtain⟨b,h,n,D⟩:=KN o (col:=col) (by simpa using hl) (λj x v p e f=>d (j+1) x v (by omega) (by simpa using e) (by simpa using f)) (λk B=>i k (by simpa using B)) h;refine⟨_,h,by simp [n],λj E u p m l=> ?_⟩;cases j with
  | zero=>simp at m l;subst m;subst l;exact g1
  | succ j=>exact D j E u (by omega) (by simpa using m) (by simpa using l)
theorem P9{R:Type}{t:TypeId}{i:Id}{ah sz col rsz base off:Nat}{e:Row}{h:Id->Option aa}{K:AV->Option R}{r:R}(hs:HS c w h ρ O)(B:cx P t=true)(o:cc=none\/cc=some true)(m:jB w (AA c w O) ρ O i ah sz col rsz base e)(b:tP P t cc i sz col off e K=some r):
  ∃D v,K D=some r/\(loadVar t ⟨ah,base+off,none⟩).run P w= .ok v w/\ao w (AA c w O) ρ D v:=by
 unfold tP at b;cases g:bW P t
 .simp only [g,cond_false] at b;split at b
  .rename_i d;subst d;obtain⟨_,_,_,v,M,N,_⟩:=m;exact⟨_,v,b,zw B g _ _ v M,by simp only [ao];exact N⟩
  .rename_i G;replace b:=aS b o;obtain⟨x,z,b⟩:=b;have H:e.cs[off]? =some x:=by rw [List.head?_drop] at z;exact z
   obtain⟨u,g1,n⟩:=m.2.2.1 off x G H;obtain⟨y,b,L⟩:=qC o n b;exact⟨_,u,b,zw B g _ _ u g1,by simp only [ao];exact L⟩
 .simp only [g,cond_true] at b;split at b
  .rename_i p;obtain⟨rfl,X⟩:=p;obtain⟨l,hl,Y,b⟩:=zM o b;have S:=m.1;have F:l=e.cs:=by rw [hl,Yn (by omega)]
   subst F;obtain⟨vs,Z,U,V,vc,I,J⟩:=m.bC;have Q:=m.2.1;obtain⟨W,b,g1,n⟩:=KN o (ks:=(uT P t).set col .x) (col:=col) (by omega) V (λk b=>by
    rw [XS] at b;simp only [if_true] at b;split at b
    .simpa using b.symm
    .cases b) b
   refine⟨_, .agg vs.toArray,b, ?_, ?_⟩
   .rw [Yr];exact CY B g _ _ vs (by omega) U
   .simp only [ao];refine⟨vs,rfl,aC.wC (by simp [g1]) λj a v f C=> ?_,λu T=> ?_⟩
    .rw [XS] at f;by_cases d:col=j
     .subst d;rw [if_pos rfl] at f;split at f
      .simp only [Wj] at f;subst f;rw [I] at C;cases C;simp only [ao];exact J
      .cases f
     .rw [if_neg d,Xh] at f;obtain⟨x,z,rfl⟩:=Ym.1 f;simp only [ao];exact n j x v (λe=>d e.symm) z C
    .obtain⟨j,q⟩:=YK.1 T;by_cases d:j=col
     .subst d;rw [I] at q;cases q;exact hs.gone _ _ _ J
     .have E:j < W.length:=by have:=(Wm.1 q).1;omega
      exact(n j _ u d (Wv E) q).r6
  .cases b
theorem H4{R:Type}{t:TypeId}{a:AV}{va:Value}{K:AV->Option R}{r:R}(hs:HS c w s.h ρ O)(g:ao w (AA c w O) ρ a va)(m:cc=none\/cc=some true)(h:ix P s cc t a K=some r):
  ∃f v,K f=some r/\(Instr.loadAt t va).run P w= .ok v w/\ao w (AA c w O) ρ f v:=by
 unfold ix at h;cases C:cx P t
 .simp [C] at h
 simp only [C,cond_true] at h;split at h
 .rename_i i off;split at h
  .rename_i cs E;obtain⟨b,arr,V,z,I,Z,S,D,h6⟩:=Ay hs E;simp only [ao] at g;obtain⟨b',d,rfl⟩:=g;rw [z] at d;simp only [Wj,X3,Xy] at d;obtain⟨rfl,_⟩:=d;obtain⟨f,v,g1,M,N⟩:=Qc (b:=b) (off:=off) C (S.drop off) (λu hu=>D u (YP hu)) (λj v hj=>h6 _ v (by rw [YF] at hj;exact hj)) h;exact⟨f,v,g1,by simpa [Instr.loadAt,Instr.sureAddr] using M,N⟩
  .rename_i l E;obtain⟨b,z,I,Z,S⟩:=hs.ah i _ E;simp only [ao] at g;obtain⟨b',d,rfl⟩:=g;rw [z] at d;simp only [Wj,X3,Xy] at d;obtain⟨rfl,_⟩:=d;have D:=S.drop off;rw [WZ] at D;obtain⟨f,v,g1,M,N⟩:=yT C m D h;exact⟨f,v,g1,by simpa [Instr.loadAt,Instr.sureAddr] using M,N⟩
  .simp at h
 .rename_i i sz k off;split at h
  .rename_i fz sz' bb xs E;split at h
   .rename_i B;subst B;replace h:=aS h m;obtain⟨cs,p,h⟩:=h;obtain⟨v,z,I⟩:=sv hs E;simp only [ao] at g;obtain⟨b,o,L,cap,d,rfl⟩:=g;rw [z] at d;simp only [Wj] at d;subst d;obtain⟨a',cap',g1,M,N,g4,Q⟩:=I;simp only [XC] at g1;obtain⟨rfl,rfl,rfl⟩:=g1;have U:k < xs.length:=(Wm.1 p).1;rcases Q with Q | ⟨ah,off',arr,V,y,W,X,Y,q⟩
    .omega
    .simp only [Wj,Xy] at y;obtain⟨rfl,rfl,_⟩:=y;obtain⟨_,J⟩:=q.get p;obtain⟨f,v,F,G,H⟩:=yT (ρ:=ρ) C m (J.drop off) h;exact⟨f,v,F,by simpa [Instr.loadAt,Instr.sureAddr] using G,H⟩
   .simp at h
  .rename_i bb sz' col rsz nx es E;split at h
   .rename_i B;subst B;replace h:=aS h m;obtain⟨e,p,h⟩:=h;obtain⟨a,cap,z,I,Z,S,D⟩:=hs.ah i _ E;simp only [ao] at g;obtain⟨b,o,L,cap',d,rfl⟩:=g;rw [z] at d;simp only [Wj,XC] at d;obtain⟨rfl,rfl,rfl⟩:=d;have U:k < es.length:=(Wm.1 p).1;rcases D with D | ⟨ah,off',arr,V,y,W,X,Y,q⟩
    .omega
    .simp only [Wj,Xy] at y;obtain⟨rfl,rfl,_⟩:=y;obtain⟨f,v,F,G,H⟩:=P9 hs C m (q.get p) h;exact⟨f,v,F,by simpa [Instr.loadAt,Instr.sureAddr] using G,H⟩
   .simp at h
  .simp at h
 .rename_i i sz n k off;replace h:=CU hs m h;obtain⟨rsz,bb,xs,v,h,hv,hsl⟩:=h;split at h
  .rename_i B;subst B;replace h:=aS h m;obtain⟨cs,p,h⟩:=h;simp only [ao] at g;obtain⟨b,o,L,cap,d,rfl⟩:=g;rw [hv] at d;simp only [Wj] at d;subst d;obtain⟨a',cap',g1,M,N,g4,Q⟩:=hsl;simp only [XC] at g1;obtain⟨rfl,rfl,rfl⟩:=g1;have U:k < xs.length:=(Wm.1 p).1;rcases Q with Q | ⟨ah,off',arr,V,y,W,X,Y,q⟩
   .omega
   .simp only [Wj,Xy] at y;obtain⟨rfl,rfl,_⟩:=y;obtain⟨_,J⟩:=q.get p;obtain⟨f,v,F,G,H⟩:=yT (ρ:=ρ) C m (J.drop off) h;exact⟨f,v,F,by simpa [Instr.loadAt,Instr.sureAddr] using G,H⟩
  .simp at h
 .rename_i x;replace h:=aS h m;obtain⟨cs,p,h⟩:=h;have:=T.zf p;subst this;simp only [ao,az] at g;obtain⟨ah,off,rfl,z,I⟩:=g;obtain⟨f,v,F,G,H⟩:=yT (ρ:=ρ) C m I h;exact⟨f,v,F,by simpa [Instr.loadAt,Instr.sureAddr] using G,H⟩
 .simp at h
theorem BB{t:TypeId}{f:Nat}{p:Nat×TypeId}(h:vH P t f=some p):∃a x,P.underlying t=some (.struct a)/\a[f]? =some x/\p= (x.offset,x.type)/\cx P p.2=true:=by
 unfold vH at h;split at h
 .rename_i a d;split at h
  .rename_i x e;cases b:cx P x.type
   .simp [b] at h
   .simp only [b,cond_true,Wj] at h;subst h;exact⟨a,x,d,e,rfl,b⟩
  .simp at h
 .simp at h
theorem yn{t e:TypeId}(h:ou P t=some e):P.underlying t=some (.slice e)/\cx P e=true:=by
 unfold ou at h;split at h
 .rename_i e' b;cases a:cx P e'
  .simp [a] at h
  .simp only [a,cond_true,Wj] at h;subst h;exact⟨b,a⟩
 .simp at h
theorem Ek{t:TypeId}{p:Nat×TypeId}(h:xJ P t=some p):P.underlying t=some (.array p.1 p.2)/\cx P p.2=true:=by
 unfold xJ at h;split at h
 .rename_i n e' b;cases a:cx P e'
  .simp [a] at h
  .simp only [a,cond_true,Wj] at h;subst h;exact⟨b,a⟩
 .simp at h
theorem Pj{R:Type}{t:TypeId}{x:AV}{m:Value}{f:Nat}{K:AV->Option R}{r:R}(a:ao w A ρ x m)(C:cc=none\/cc=some true)(h:tF P cc t x f K=some r):
  ∃i v,K i=some r/\(Instr.fieldAt t m f).run P w= .ok v w/\ao w A ρ i v:=by
 unfold tF at h;split at h
 .rename_i off u D;obtain⟨G,y,q,z,l,B⟩:=BB D;simp only [Xa] at l;obtain⟨rfl,rfl⟩:=l;split at h
  .simp at h
  .rename_i F;have d:∀b o,(Instr.fieldAt t (.pointer (some ⟨b,o,none⟩)) f).run P w= .ok (.pointer (some ⟨b,o+y.offset,none⟩)) w:=by
    intro b o;simp [Instr.fieldAt,run_underlying q,z,Instr.sureAddr,fieldPlace,jS B,F,iD]
   split at h
   .rename_i j o;simp only [ao] at a;obtain⟨b,e,rfl⟩:=a;exact⟨_,_,h,d _ _,by simp only [ao];exact⟨b,e,rfl⟩⟩
   .rename_i j sz k o;simp only [ao] at a;obtain⟨b,g,L,cap,e,rfl⟩:=a;exact⟨_,_,h,d _ _,by simp only [ao];exact⟨b,g,L,cap,e,by rw [Yw]⟩⟩
   .rename_i j sz n k o;simp only [ao] at a;obtain⟨b,g,L,cap,e,rfl⟩:=a;exact⟨_,_,h,d _ _,by simp only [ao];exact⟨b,g,L,cap,e,by rw [Yw]⟩⟩
   .rename_i H;replace h:=aS h C;obtain⟨cs,E,h⟩:=h;have:=T.zf E;subst this;simp only [ao,az] at a;obtain⟨ah,o,rfl,g1,p⟩:=a;refine⟨_,_,h,d _ _, ?_⟩;simp only [ao,az];refine⟨ah,_,rfl, ?_,p.drop _⟩;rcases g1 with rfl | g1
    .exact .inl (by simp)
    .exact .inr g1
   .simp at h
 .simp at h
theorem pY{R:Type}{i:Int}{n:Nat}{K:Option R}{r:R}(d:cc=none\/cc=some true)(h:lI cc i n K=some r): 0<=i/\i < n/\K=some r:=by
 unfold lI at h;replace h:=aS h d;obtain⟨_,a,h⟩:=h;split at a
 .rename_i b;exact⟨b.1,b.2,h⟩
 .simp at a
theorem PF{R:Type}{t:TypeId}{x:AV}{vx:Value}{i:Int}{ki:IntKind}{K:AV->Option R}{r:R}(hs:HS c w s.h ρ O)(d:ao w (AA c w O) ρ x vx)(q:cc=none\/cc=some true)(h:kG P s cc t x i K=some r):
  ∃V v,K V=some r/\(Instr.indexAt t vx (.int ki i)).run P w= .ok v w/\ao w (AA c w O) ρ V v:=by
 unfold kG at h;split at h
 .rename_i e J;obtain⟨M,F⟩:=yn J;have g:∀b o len cap,0<=i->i < (len:Nat)->(Instr.indexAt t (.slice (some ⟨b,o,none⟩) len cap) (.int ki i)).run P w= .ok (.pointer (some ⟨b,o+i.toNat * P.cellsOf e,none⟩)) w:=by
   intro b o len cap h0 f;simp [Instr.indexAt,asIntOf,run_underlying M,h0,f,jS F,iD]
  split at h
  .rename_i j;split at h
   .rename_i fz sz bb xs D;split at h
    .rename_i m;subst m;obtain⟨h0,f,h⟩:=pY q h;obtain⟨v,g1,l⟩:=sv hs D;simp only [ao] at d;rw [g1] at d;simp only [Wj] at d;subst d;obtain⟨I,cap',C,q2,q3,q4,u⟩:=l;rcases u with u | ⟨ah,off',arr,U,B,N,Q,S,G⟩
     .omega
     .subst B;subst C;exact⟨_,_,h,g _ _ _ _ h0 f,by simp only [ao];exact⟨ah,off',_,_,g1,by simp⟩⟩
    .simp at h
   .rename_i bb sz col rsz nx es D;split at h
    .rename_i m;subst m;obtain⟨h0,f,h⟩:=pY q h;obtain⟨a,cap,g1,l,X,g4,H⟩:=hs.ah j _ D;simp only [ao] at d;rw [g1] at d;simp only [Wj] at d;subst d;rcases H with H | ⟨ah,off',arr,U,B,N,Q,S,G⟩
     .omega
     .subst B;exact⟨_,_,h,g _ _ _ _ h0 f,by simp only [ao];exact⟨ah,off',_,_,g1,by simp⟩⟩
    .simp at h
   .simp at h
  .rename_i j n;replace h:=CU hs q h;obtain⟨rsz,bb,xs,v,h,hv,Z⟩:=h;split at h
   .rename_i m;subst m;obtain⟨h0,f,h⟩:=pY q h;simp only [ao] at d;rw [hv] at d;simp only [Wj] at d;subst d;obtain⟨I,cap',C,q2,q3,q4,u⟩:=Z;rcases u with u | ⟨ah,off',arr,U,B,N,Q,S,G⟩
    .omega
    .subst B;subst C;exact⟨_,_,h,g _ _ _ _ h0 f,by simp only [ao];exact⟨ah,off',_,_,hv,by simp⟩⟩
   .simp at h
  .rename_i j sz off n;split at h
   .rename_i fz sz' bb xs D;split at h
    .rename_i m;obtain⟨rfl,rfl⟩:=m;obtain⟨h0,f,h⟩:=pY q h;obtain⟨v,g1,l⟩:=sv hs D;simp only [ao] at d;obtain⟨a,L,cap,I,z,e2,e3,rfl,e4⟩:=d;rw [g1] at z;simp only [Wj] at z;subst z;obtain⟨a'',cap'',C,q2,q3,q4,u⟩:=l;simp only [XC] at C;obtain⟨rfl,rfl,rfl⟩:=C;rcases u with u | ⟨ah,off',arr,U,B,N,Q,S,G⟩
     .omega
     .subst B;have ea:I=some ⟨ah,off'+off * P.cellsOf e,none⟩:=by
       rcases e4 with⟨rfl,rfl⟩ | ⟨rfl,_⟩ | ⟨b,o,W,e6⟩
       .simp
       .omega
       .simp only [Wj,Xy] at W;obtain⟨rfl,rfl,_⟩:=W;exact e6
      subst ea;refine⟨_,_,h,g _ _ _ _ h0 f, ?_⟩;simp only [ao];exact⟨ah,off',_,_,g1,by congr 3;rw [Ye];omega⟩
    .simp at h
   .simp at h
  .rename_i y;replace h:=aS h q;obtain⟨p,hp,h⟩:=h;obtain⟨h0,f,h⟩:=pY q h;replace h:=aS h q;obtain⟨cs,E,h⟩:=h;rcases T.rU hp with rfl | ⟨rfl,Y⟩
   .simp only [ao,az] at d;rcases d with⟨_,e,_⟩ | ⟨_,ah,off,sp,cap,rfl,g1,l,X⟩
    .rw [e] at f;simp at f;omega
    .rcases l with l | ⟨rfl,l⟩
     .rw [l] at E;simp at E
     refine⟨_,_,h,g _ _ _ _ h0 f, ?_⟩;obtain⟨g4,H⟩:=X.get E;simp only [ao,az];exact⟨ah,_,rfl, .inr l,H⟩
   .rw [Y] at f;simp at f;omega
  .simp at h
 .split at h
  .rename_i n e J;obtain⟨M,F⟩:=Ek J;obtain⟨h0,f,h⟩:=pY q h;have g:∀b o,(Instr.indexAt t (.pointer (some ⟨b,o,none⟩)) (.int ki i)).run P w= .ok (.pointer (some ⟨b,o+i.toNat * P.cellsOf e,none⟩)) w:=by
    intro b o;simp [Instr.indexAt,asIntOf,run_underlying M,Instr.sureAddr,h0,f,jS F,iD]
   split at h
   .rename_i j off;simp only [ao] at d;obtain⟨b,z,rfl⟩:=d;exact⟨_,_,h,g _ _,by simp only [ao];exact⟨b,z,rfl⟩⟩
   .rename_i j sz k off;simp only [ao] at d;obtain⟨b,o',L,cap,z,rfl⟩:=d;exact⟨_,_,h,g _ _,by simp only [ao];exact⟨b,o',L,cap,z,by rw [Yw]⟩⟩
   .rename_i y;replace h:=aS h q;obtain⟨cs,E,h⟩:=h;have:=T.zf E;subst this;simp only [ao,az] at d;obtain⟨ah,o,rfl,g1,l⟩:=d;refine⟨_,_,h,g _ _, ?_⟩;simp only [ao,az];refine⟨ah,_,rfl, ?_,l.drop _⟩;rcases g1 with rfl | g1
    .exact .inl (by simp)
    .exact .inr g1
   .simp at h
  .simp at h
end
open Go Go.IntKind
section
variable {P:Program} {w w':World} {A A':Nat->Prop} {c:Ctx} {ρ:Id->Option Value} {O:Id->Option Nat} {s:St} {cc:Option Bool}
theorem PW{R:Type}{t ty:TypeId}{ts:Array TypeId}{x:AV}{z:Value}{K:AV->Option R}{r:R}(hs:HS c w s.h ρ O)(d:ao w (AA c w O) ρ x z)(k:cc=none\/cc=some true)(h:oI P s cc t x K=some r)
  (g:ts[0]? =some t):∃q v,K q=some r/\(Builtin.len_ ts ty #[z]).run P w= .ok v w/\ao w (AA c w O) ρ q v:=by
 unfold oI at h;split at h
 .rename_i i;split at h
  .rename_i y;replace h:=aS h k;obtain⟨b,B,h⟩:=h;have:=T.lS B;subst this;simp only [ao,az] at d;subst d;exact⟨_,_,h,by simp [Builtin.len_,g,run_underlying i];rfl,by simp only [ao];exact hF _ _ _ _⟩
  .simp at h
 .rename_i n e i;exact⟨_,_,h,by simp [Builtin.len_,g,run_underlying i];rfl,by simp only [ao];exact hF _ _ _ _⟩
 .rename_i e i;have f:∀a n cap,(Builtin.len_ ts ty #[.slice a n cap]).run P w= .ok (goInt n) w:=by
   intro a n cap;simp [Builtin.len_,g,run_underlying i]
  split at h
  .rename_i j;split at h
   .rename_i fz sz bb xs l;obtain⟨v,g1,o,cap',m,M,N,Q,S⟩:=sv hs l;simp only [ao] at d;rw [g1] at d;simp only [Wj] at d;subst d;subst m;exact⟨_,_,h,f _ _ _,by simp only [ao];exact hF _ _ _ _⟩
   .rename_i bb sz col rsz J es l;obtain⟨a,cap,g1,_⟩:=hs.ah j _ l;simp only [ao] at d;rw [g1] at d;simp only [Wj] at d;subst d;exact⟨_,_,h,f _ _ _,by simp only [ao];exact hF _ _ _ _⟩
   .simp at h
  .rename_i j n;replace h:=CU hs k h;obtain⟨rsz,bb,xs,v,h,D,o,cap',m,_⟩:=h;simp only [ao] at d;rw [D] at d;simp only [Wj] at d;subst d;subst m;exact⟨_,_,h,f _ _ _,by simp only [ao];exact hF _ _ _ _⟩
  .rename_i j sz off n;simp only [ao] at d;obtain⟨a,L,cap,o,E,F,e3,rfl,G⟩:=d;exact⟨_,_,h,f _ _ _,by simp only [ao];exact hF _ _ _ _⟩
  .rename_i y;replace h:=aS h k;obtain⟨p,C,h⟩:=h;rcases T.rU C with rfl | ⟨rfl,u⟩
   .simp only [ao,az] at d;rcases d with⟨_,e,rfl⟩ | ⟨_,ah,off,sp,cap,rfl,g1,H,I⟩
    .refine⟨_,_,h,f _ _ _, ?_⟩;simp only [ao,e];exact hF _ _ _ _
    .exact⟨_,_,h,f _ _ _,by simp only [ao];exact hF _ _ _ _⟩
   .simp only [ao,az] at d;rw [u] at h;rcases d with⟨_,rfl⟩ | ⟨_,ah,off,sp,rfl⟩ <;> exact⟨_,_,h,f _ _ _,by simp only [ao];exact hF _ _ _ _⟩
  .simp at h
 .simp at h
theorem Al{x:T}{n:Int}(h:jH.anyInt x=some n):∃k,x= .int k n:=by cases x <;> simp_all [jH.anyInt]
def jY(b:Option Int)(v:Option Value):Prop:=match b,v with
 | none,none=>True
 | some n,some (.int _ m)=>m=n
 | _,_=>False
theorem Ax{R:Type}{a:Act}{g:Option Gs}{o:Option Operand}{K:Option Int->Option R}{r:R}(j:SS w A ρ s.t a.tmps)(i:l0 a.tmps g)(e:cc=none\/cc=some true)(h:jH s cc g o K=some r):
  ∃b,K b=some r/\jY b (o.map a.eval):=by
 unfold jH at h;split at h
 .exact⟨none,h,trivial⟩
 .rename_i o;cases d:(s.get g o).t? with
  | none=>simp [d] at h
  | some x=>simp only [d,Wq] at h;replace h:=aS h e;obtain⟨n,f,h⟩:=h;obtain⟨k,rfl⟩:=Al f;have:=SS.get (h:=s.h) j i o;rw [show(⟨s.t,s.h⟩:St)=s from rfl,AV.nh d] at this;simp only [ao,az] at this;exact⟨some n,h,by simp [jY,this]⟩
theorem yH{b a n:Int}(h:iI b a n=some ()): 0<=b/\b<=a/\a<=n:=by
 unfold iI at h;split at h
 .assumption
 .simp at h
theorem xl{v:Option Value}(h:jY none v):v=none:=by cases v <;> simp_all [jY]
theorem sJ{n:Int}{v:Option Value}(h:jY (some n) v):∃k,v=some (.int k n):=by
 cases v with
 | none=>simp [jY] at h
 | some v=>cases v <;> simp_all [jY]
theorem um(k:IntKind)(n:Int)(y:Nat)(a:BoundsCode)(h0: 0<=n)(b:n<=y):(Instr.sliceBound (.int k n) y a).run P w= .ok n.toNat w:=run_sliceBound w k n y a h0 b
theorem JN(p:Bool){b f:Option Int}{j i:Option Value}{len cap:Nat}(hl:jY b j)(o:jY f i)(g: 0<=b.getD 0)(d:b.getD 0<=f.getD len)(l:f.getD len<=cap):
  (Instr.sliceBounds p len cap j i none).run P w= .ok ((b.getD 0).toNat,(f.getD len).toNat,cap) w:=by
 cases f with
 | none=>
  have:=xl o;subst this;simp only [Zq] at d l⊢;cases b with
  | none=>have:=xl hl;subst this;simp [Instr.sliceBounds]
  | some n=>obtain⟨k,rfl⟩:=sJ hl;simp only [X6] at g d⊢;have e:=um (P:=P) (w:=w) k n len .sliceB g d;simp [Instr.sliceBounds,e]
 | some m=>
  obtain⟨q,rfl⟩:=sJ o;simp only [X6] at d l⊢;have e':∀a,(Instr.sliceBound (.int q m) cap a).run P w= .ok m.toNat w:=λa=>um q m cap a (by omega) l;cases b with
  | none=>have:=xl hl;subst this;simp [Instr.sliceBounds,e']
  | some n=>obtain⟨k,rfl⟩:=sJ hl;simp only [X6] at g d⊢;have e:=um (P:=P) (w:=w) k n m.toNat .sliceB g (by omega);simp [Instr.sliceBounds,e,e']
theorem Um{R:Type}{t:TypeId}{x:AV}{vx:Value}{g C mx:Option Int}{V U F:Option Value}{K:AV->Option R}{r:R}(hs:HS c w s.h ρ O)(q:ao w (AA c w O) ρ x vx)(J:cc=none\/cc=some true)
  (hl:jY g V) (hh:jY C U) (hm:jY mx F) (h:o7 P s cc t x g C mx K=some r):
  ∃av v,K av=some r/\(Instr.sliceAt t vx V U F).run P w= .ok v w/\ao w (AA c w O) ρ av v:=by
 unfold o7 at h;split at h
 .rename_i hu;split at h
  .rename_i y;replace h:=aS h J;obtain⟨b,I,h⟩:=h;have:=T.lS I;subst this;simp only [ao,az] at q;subst q;replace h:=aS h J;obtain⟨_,I,h⟩:=h;obtain⟨D,l,B⟩:=yH I;have hvm:F=none:=by cases F with | none=>rfl | some v=>simp [jY] at hm
   subst hvm;refine⟨_,_,h, ?_,by simp only [ao];exact mW _ _ _⟩;have:=JN (P:=P) (w:=w) false (len:=b.size) (cap:=b.size) hl hh D l B;simp [Instr.sliceAt,Instr.slice,run_underlying hu,this]
  .simp at h
 .rename_i e hu;split at h
  .have hvm:F=none:=by cases F with | none=>rfl | some v=>simp [jY] at hm
   subst hvm
   have z:cx P e=true->∀(a:Option Addr) (len cap:Nat),0<=g.getD 0->g.getD 0<=C.getD len->C.getD len<=cap->
     (Instr.sliceAt t (.slice a len cap) V U none).run P w= .ok (.slice (if cap= (g.getD 0).toNat then a else a.map (·.add ((g.getD 0).toNat * P.cellsOf e))) ((C.getD len).toNat - (g.getD 0).toNat) (cap - (g.getD 0).toNat)) w:=by
    intro f a len cap D l B;have:=JN (P:=P) (w:=w) true hl hh D l B;simp [Instr.sliceAt,Instr.slice,run_underlying hu,this,jS f]
   split at h
   .rename_i j;split at h
    .rename_i fz sz bb xs hj;split at h
     .rename_i Q;obtain⟨Q,f⟩:=Q;subst Q;replace h:=aS h J;obtain⟨_,I,h⟩:=h;obtain⟨D,l,B⟩:=yH I;obtain⟨v,g1,G,cap',W,q2,q3,q4,X⟩:=sv hs hj;simp only [ao] at q;rw [g1] at q;simp only [Wj] at q;subst q;subst W;refine⟨_,_,h,z f _ _ _ D l (by omega), ?_⟩;simp only [ao];refine⟨G,_,cap',_,g1,by omega,q2,rfl, ?_⟩;by_cases e0:(g.getD 0).toNat=0
      .left;refine⟨e0, ?_⟩;rw [e0];split
       .rfl
       .cases G <;> simp [Addr.add]
      .by_cases i:cap'= (g.getD 0).toNat
       .right;left;rw [if_pos i];exact⟨i.symm,YL,q4⟩
       .right;right;rw [if_neg i];rcases X with X | ⟨ah,off',arr,t',q6,_⟩
        .omega
        .subst q6;exact⟨ah,off',rfl,by simp [iD]⟩
     .simp at h
    .simp at h
   .rename_i j sz off n;split at h
    .rename_i fz sz' bb xs hj;split at h
     .rename_i Q;obtain⟨rfl,rfl,f⟩:=Q;replace h:=aS h J;obtain⟨_,I,h⟩:=h;obtain⟨D,l,B⟩:=yH I;simp only [ao] at q;obtain⟨a,L,cap,G,i,e2,e3,rfl,e4⟩:=q;obtain⟨v,g1,a'',cap'',W,q2,q3,q4,X⟩:=sv hs hj;rw [g1] at i;simp only [Wj] at i;subst i;simp only [XC] at W;obtain⟨rfl,rfl,rfl⟩:=W;refine⟨_,_,h,z f _ _ _ D l (by omega), ?_⟩;simp only [ao];refine⟨a,_,cap,_,g1,by omega,e3,by congr 1;omega, ?_⟩;by_cases e0:(g.getD 0).toNat=0
      .have:(if cap - off= (g.getD 0).toNat then G else G.map (·.add ((g.getD 0).toNat * P.cellsOf e)))=G:=by
        rw [e0];split
        .rfl
        .cases G <;> simp [Addr.add]
       rw [this,e0,Yr];exact e4
      .by_cases N:cap - off= (g.getD 0).toNat
       .right;left;rw [if_pos N];refine⟨by omega, ?_, ?_⟩
        .rcases e4 with⟨_,rfl⟩ | ⟨_,E,_⟩ | ⟨b,o,rfl,rfl⟩
         .exact YL
         .exact E
         .simp
        .trivial
       .right;right;rw [if_neg N];rcases X with X | ⟨ah,off',arr,t',q6,_⟩
        .omega
        .subst q6;rcases e4 with⟨e7,rfl⟩ | ⟨e7,_⟩ | ⟨b,o,E,rfl⟩
         .subst e7;exact⟨ah,off',rfl,by simp [iD]⟩
         .omega
         .exact⟨b,o,E,by simp [iD,Ye,Yw]⟩
     .simp at h
    .simp at h
   .rename_i y;split at h
    .rename_i f;replace h:=aS h J;obtain⟨p,hp,h⟩:=h;replace h:=aS h J;obtain⟨_,I,h⟩:=h;obtain⟨D,l,B⟩:=yH I;rcases T.rU hp with rfl | ⟨rfl,hp2⟩
     .simp only [ao,az] at q;rcases q with⟨i,e,rfl⟩ | ⟨i,ah,off,sp,cap,rfl,g1,H,g3⟩
      .rw [e] at l B h;refine⟨_,_,h,z f _ _ _ (by simpa using D) (by simpa using l) (by simpa using B), ?_⟩;simp only [WN,W3] at l B;have N:(g.getD 0).toNat=0:=by omega
       have E:(C.getD ((0:Nat):Int)).toNat=0:=by
        have:C.getD ((0:Nat):Int)=C.getD 0:=by simp
        rw [this];omega
       simp only [ao,az,sub,List.drop_nil,List.take_nil];left;refine⟨i,trivial, ?_⟩;rw [E];simp
      .refine⟨_,_,h,z f _ _ _ D l (by omega), ?_⟩;simp only [ao,az];right;refine⟨i, ?_⟩;by_cases N:cap= (g.getD 0).toNat
       .rw [if_pos N];have E:(C.getD ((p.2.length:Nat):Int)).toNat - (g.getD 0).toNat=0:=by omega
        refine⟨ah,off,sp,cap - (g.getD 0).toNat, ?_, ?_, .inl ?_, ?_⟩
        .simp only [sub,E,ZE,WN]
        .simp only [sub,E,ZE,WN];omega
        .simp [sub,E]
        .simp [sub,E,bq]
       .rw [if_neg N];have M:(sub (g.getD 0) (C.getD ((p.2.length:Nat):Int)) p.2).length= (C.getD ((p.2.length:Nat):Int)).toNat - (g.getD 0).toNat:=by
         simp only [sub,Xk,XK];omega
        rcases H with H | ⟨H,g4⟩
        .have e7:(g.getD 0).toNat=0:=by rw [H] at B;simp only [WN] at B;rw [H] at l;simp only [WN] at l;omega
         refine⟨ah,off,sp,cap - (g.getD 0).toNat, ?_, ?_, .inl (by simp [sub,H]),by simp [sub,H,bq]⟩
         .rw [M,e7];simp [Addr.add]
         .rw [M];omega
        .subst H;refine⟨ah,off+ (g.getD 0).toNat * P.cellsOf e,none,cap - (g.getD 0).toNat, ?_, ?_, .inr ⟨rfl,g4⟩, ?_⟩
         .rw [M];simp only [X4,iD]
         .rw [M];omega
         .exact(g3.drop _).take _
     .rw [hp2] at l B h;simp only [ao,az] at q;simp only [WN,W3] at l B;have N:(g.getD 0).toNat=0:=by omega
      have E:(C.getD ((0:Nat):Int)).toNat=0:=by
       have:C.getD ((0:Nat):Int)=C.getD 0:=by simp
       rw [this];omega
      rcases q with⟨i,rfl⟩ | ⟨i,ah,off,sp,rfl⟩
      .refine⟨_,_,h,z f _ _ _ (by simpa using D) (by simpa using l) (by simpa using B), ?_⟩;simp only [ao,az,sub,List.drop_nil,List.take_nil];left;refine⟨i,trivial, ?_⟩;rw [E];simp
      .refine⟨_,_,h,z f _ _ _ (by simpa using D) (by simpa using l) (by simpa using B), ?_⟩;simp only [ao,az,sub,List.drop_nil,List.take_nil,bq];right;refine⟨i,ah,off,sp,0, ?_,by simp, .inl trivial,trivial⟩;rw [N,E];simp
    .simp at h
   .simp at h
  .rename_i m;obtain⟨km,rfl⟩:=sJ hm
   have z:cx P e=true->g.getD 0=0->C.getD 1=0->m=0->∀(a:Option Addr) (len cap:Nat),
     (Instr.sliceAt t (.slice a len cap) V U (some (.int km m))).run P w= .ok (.slice a 0 0) w:=by
    intro f D l B a len cap;cases C with
    | none=>simp at l
    | some hn=>
     obtain⟨kh,rfl⟩:=sJ hh;simp only [X6] at l;subst l;subst B;have i:∀k,(Instr.sliceBound (.int km 0) cap k).run P w= .ok 0 w:=λk=>um km 0 cap k (by omega) (by omega);have e2:∀k,(Instr.sliceBound (.int kh 0) 0 k).run P w= .ok 0 w:=λk=>um kh 0 0 k (by omega) (by omega);cases g with
     | none=>have:=xl hl;subst this;simp [Instr.sliceAt,Instr.slice,run_underlying hu,Instr.sliceBounds,i,e2,jS f]
     | some ln=>obtain⟨kl,rfl⟩:=sJ hl;simp only [X6] at D;subst D;have e3:∀k,(Instr.sliceBound (.int kl 0) 0 k).run P w= .ok 0 w:=λk=>um kl 0 0 k (by omega) (by omega);simp [Instr.sliceAt,Instr.slice,run_underlying hu,Instr.sliceBounds,i,e2,e3,jS f]
   have zs:∀{a b d:Int} {u:Unit},zX a b d=some u->a=0/\b=0/\d=0:=by
    intro a b d u S;unfold zX at S;split at S
    .assumption
    .simp at S
   split at h
   .rename_i y;split at h
    .rename_i f;replace h:=aS h J;obtain⟨p,hp,h⟩:=h;replace h:=aS h J;obtain⟨_,S,h⟩:=h;obtain⟨Y,Z,z3⟩:=zs S;rcases T.rU hp with rfl | ⟨rfl,hp2⟩
     .simp only [ao,az] at q;rcases q with⟨i,e,rfl⟩ | ⟨i,ah,off,sp,cap,rfl,g1,H,g3⟩
      .exact⟨_,_,h,z f Y Z z3 _ _ _,by simp only [ao,az];exact .inl ⟨i,trivial⟩⟩
      .exact⟨_,_,h,z f Y Z z3 _ _ _,by simp only [ao,az];exact .inr ⟨i,ah,off,sp,rfl⟩⟩
     .simp only [ao,az] at q;rcases q with⟨i,rfl⟩ | ⟨i,ah,off,sp,rfl⟩
      .exact⟨_,_,h,z f Y Z z3 _ _ _,by simp only [ao,az];exact .inl ⟨i,trivial⟩⟩
      .exact⟨_,_,h,z f Y Z z3 _ _ _,by simp only [ao,az];exact .inr ⟨i,ah,off,sp,rfl⟩⟩
    .simp at h
   .rename_i j;split at h
    .rename_i fz sz bb xs hj;split at h
     .simp at h
     .rename_i f;simp only [Bool.not_eq_false] at f;replace h:=aS h J;obtain⟨_,S,h⟩:=h;obtain⟨Y,Z,z3⟩:=zs S;obtain⟨v,g1,G,cap',W,q2,q3,q4,X⟩:=sv hs hj;simp only [ao] at q;rw [g1] at q;simp only [Wj] at q;subst q;subst W;refine⟨_,_,h,z f Y Z z3 _ _ _, ?_⟩;simp only [ao,az];cases bb
      .right;cases G with
       | none=>simp at q3
       | some x=>obtain⟨b,o,sp⟩:=x;exact⟨rfl,b,o,sp,rfl⟩
      .left;exact⟨rfl,by rw [q3.2 rfl]⟩
    .simp at h
   .simp at h
 .simp at h
end
open Go Go.IntKind
section
variable {P:Program} {w w':World} {A A':Nat->Prop} {c:Ctx} {ρ:Id->Option Value} {O:Id->Option Nat} {s:St} {cc:Option Bool} {h:Id->Option aa}
def uc(v:AV)(i:Id):Prop:=v= .own i\/(∃sz off n,v= .part i sz off n)\/∃off,v= .ref i off
theorem o6{i:Id}{fz b:Bool}{sz:Nat}{l:List (List T)}(hs:HS c w h ρ O)(e:h i=some (.sl fz sz b l)):∃v,ρ i=some v/\dm w (AA c w O) sz b l v (λah=>if fz=true then AA c w O ah else O i=some ah):=by obtain⟨v,a,d,_⟩:=hs.ah i _ e;exact⟨v,a,d⟩
theorem n5{v:AV}{x:T}{u:Value}(hs:HS c w h ρ O)(e:ao w (AA c w O) ρ v u)(d:ei h v=some x)
  (m:∀b,AA c w O b->A' b) (R:∀i ah,uc v i->O i=some ah->A' ah):az w A' x u:=by
 have mono:∀(t:T) (v:Value),az w (AA c w O) t v->az w A' t v:=λt v hr=>az.mono (λb p=>⟨m b p,rfl⟩) t v hr;cases v <;> simp only [ei,reduceCtorEq,Wj] at d
 case t y=>subst d;simp only [ao] at e;exact mono _ _ e
 case own i=>
  split at d
  .rename_i fz sz b xs q;simp only [Wj] at d;subst d;obtain⟨v',g1,a,cap,H,V,E,q4,f⟩:=o6 hs q;simp only [ao] at e;rw [g1] at e;simp only [Wj] at e;subst e;subst H;simp only [az];cases b with
   | true=>
    left;have:a=none:=E.2 rfl;subst this;rcases f with f | ⟨ah,off,arr,t,z,_⟩
    .have:xs= []:=WT.1 (by omega);subst this;subst f;exact⟨rfl,rfl,rfl⟩
    .cases z
   | false=>
    right;refine⟨rfl, ?_⟩;rcases f with f | ⟨ah,off,arr,t,z,F,q8,q9,D⟩
    .have:xs= []:=WT.1 (by omega);subst this;cases a with
     | none=>simp at E
     | some y=>obtain⟨K,o,sp⟩:=y;exact⟨K,o,sp,cap,rfl,V, .inl rfl,by simp [bq]⟩
    .subst z;refine⟨ah,off,_,cap,rfl,V, .inr ⟨rfl, ?_⟩,bq.oK (λb p=>⟨m b p,rfl⟩) ah sz rfl off xs D⟩;cases fz
     .exact R i ah (.inl rfl) (by simpa using F)
     .exact m _ (by simpa using F)
  .simp at d
 case part i sz off n=>
  split at d
  .rename_i fz I b xs q;split at d
   .rename_i Y;subst Y;simp only [Wj] at d;subst d;obtain⟨v',g1,a,cap,H,V,E,q4,f⟩:=o6 hs q;simp only [ao] at e;obtain⟨W,L,Z,J,g,e2,e3,rfl,X⟩:=e;rw [g1] at g;simp only [Wj] at g;subst g;simp only [XC] at H;obtain⟨rfl,rfl,rfl⟩:=H;have U:((xs.drop off).take n).length=n:=by simp only [Xk,XK];omega
    simp only [az,U];have k:J=none↔W=none:=by
     rcases X with⟨_,rfl⟩ | ⟨_,B,_⟩ | ⟨b',o,rfl,rfl⟩
     .exact YL
     .exact B
     .simp
    cases b with
    | true=>
     left;have B:W=none:=E.2 rfl;subst B;rcases f with f | ⟨ah,off',arr,t,z,_⟩
     .have M:xs= []:=WT.1 (by omega);subst M;subst f;simp only [WN] at e2;have e7:n=0:=by omega
      subst e7;rw [k.2 rfl];exact⟨rfl,by simp,by congr 1;omega⟩
     .cases z
    | false=>
     right;refine⟨rfl, ?_⟩;by_cases hn:n=0
     .subst hn;cases J with
      | none=>have:=k.1 rfl;simp [this] at E
      | some y=>obtain⟨K,o,sp⟩:=y;exact⟨K,o,sp,_,rfl,by omega, .inl (by simp),by simp [bq]⟩
     .rcases f with f | ⟨ah,off',arr,t,z,F,q8,q9,D⟩
      .omega
      .subst z;have ea:J=some ⟨ah,off'+off * I,none⟩:=by
        rcases X with⟨rfl,rfl⟩ | ⟨rfl,_⟩ | ⟨b',o,B,M⟩
        .simp
        .omega
        .simp only [Wj,Xy] at B;obtain⟨rfl,rfl,_⟩:=B;exact M
       subst ea;refine⟨ah,_,_,_,rfl,by omega, .inr ⟨rfl, ?_⟩,(bq.oK (λb p=>⟨m b p,rfl⟩) ah I rfl off' xs D).drop off |>.take n⟩;cases fz
       .exact R i ah (.inr (.inl ⟨_,_,_,rfl⟩)) (by simpa using F)
       .exact m _ (by simpa using F)
   .simp at d
  .simp at d
 case ref i off=>
  simp only [ao] at e;obtain⟨b',g,rfl⟩:=e;split at d
  .rename_i cs q;obtain⟨l,hl,d⟩:=Wk.1 d;simp only [Wj] at d;subst d;obtain⟨b,arr,t',C,G,N,Q,h5,h6⟩:=Ay (s:=⟨λ_=>(none, .top),h⟩) hs q;rw [C] at g;simp only [Wj,X3,Xy] at g;obtain⟨rfl,_⟩:=g;simp only [az];refine⟨b,off,rfl, .inr (R i b (.inr (.inr ⟨_,rfl⟩)) G), ?_⟩;have hT:=aY.mh hl Q;have key:∀(l:List T) (vs:List Value) (off:Nat),aY w (AA c w O) l vs->(∀j v,vs[j]? =some v->w.cell? ⟨b,off+j,none⟩=some v)->bh w A' b off l:=by
    intro l;induction l with
    | nil=>intro vs off _ _;simp [bh]
    | cons x l ih=>rintro vs off ⟨v,r,rfl,C,G⟩ e;simp only [bh];refine⟨⟨v,by simpa using e 0 v rfl,mono _ _ C⟩,ih r (off+1) G λj u S=> ?_⟩;have:=e (j+1) u (by simpa using S);rw [show off+1+j=off+ (j+1) by omega];exact this
   have:=(key l _ 0 hT λj v S=>by rw [WZ];exact h6 j v S).drop off;rwa [WZ] at this
  .rename_i l q;simp only [Wj] at d;subst d;obtain⟨b,C,G,N,Q⟩:=hs.ah i _ q;rw [C] at g;simp only [Wj,X3,Xy] at g;obtain⟨rfl,_⟩:=g;simp only [az];refine⟨b,off,rfl, .inr (m b N), ?_⟩;have:=(bh.mono (λb p=>⟨m b p,rfl⟩) b N 0 l Q).drop off;rwa [WZ] at this
  .simp at d
def Jp(v:AV)(i:Id):Prop:=uc v i\/∃vs,v= .agg vs/\∃u∈vs,uc u i
theorem Kd(hs:HS c w h ρ O)(j:∀b,AA c w O b->A' b):∀{vs:List AV} {xs:List T} {us:List Value},aC w (AA c w O) ρ vs us->mr h vs=some xs->
  (∀i ah,(∃u∈vs,uc u i)->O i=some ah->A' ah)->aY w A' xs us
 | [],xs,us,e,a,_=>by simp only [mr,Wj] at a;subst a;simpa [aC,aY] using e
 | v::vs,xs,us,e,a,k=>by
  simp only [mr] at a;cases d:ei h v with
  | none=>simp [d] at a
  | some x=>
   cases f:mr h vs with
   | none=>simp [d,f] at a
   | some l=>simp only [d,f,Wq,Wj] at a;subst a;simp only [aC] at e;obtain⟨u,r,rfl,g1,m⟩:=e;exact⟨u,r,rfl,n5 hs g1 d j (λi ah g=>k i ah ⟨v,Wl,g⟩),Kd hs j m f (λi ah ⟨u,n,g⟩=>k i ah ⟨u,Wn _ n,g⟩)⟩
theorem Uq{v:AV}{x:T}{u:Value}(hs:HS c w h ρ O)(b:ao w (AA c w O) ρ v u)(a:ei h v=some x):u.oneCell'=true/\u.cells= #[u]:=
 (n5 (A':=λ_=>True) hs b a (λ_ _=>trivial) (λ_ _ _ _=>trivial)).r6
theorem Ur{v:AV}{xs:List T}{u:Value}(hs:HS c w h ρ O)(d:ao w (AA c w O) ρ v u)(a:mq h v=some xs)(k:∀b,AA c w O b->A' b)
  (l:∀i ah,Jp v i->O i=some ah->A' ah):aY w A' xs u.cells.toList/\∀y∈u.cells.toList,y.oneCell'=true/\y.cells= #[y]:=by
 have one:∀x,ei h v=some x->xs= [x]->aY w A' xs u.cells.toList/\∀y∈u.cells.toList,y.oneCell'=true/\y.cells= #[y]:=by intro x e f;subst f;have o:=n5 hs d e k (λi ah g=>l i ah (.inl g));have j:=Uq hs d e;rw [j.2];exact⟨⟨u,[],rfl,o,rfl⟩,by intro y m;simp at m;subst m;exact j⟩
 cases v
 case agg vs=>simp only [mq] at a;simp only [ao] at d;obtain⟨p,rfl,g1,n⟩:=d;refine⟨?_,by simpa [Value.cells] using n⟩;have:=Kd hs k g1 a (λi ah g=>l i ah (.inr ⟨vs,rfl,g⟩));simpa [Value.cells] using this
 all_goals
  unfold mq at a;obtain⟨x,e,f⟩:=Wk.1 a;exact one x e (Option.some.inj f).symm
def sF(p:Id×aa)(x:Option aa):Prop:=(∃sz b xs,p.2= .sl true sz b xs/\(x=some (.sl false sz b xs)\/x=some (.sl true sz b xs)))\/
 ∃l,p.2= .dy l/\((∃cs,x=some (.box cs)/\eV cs=some l)\/x=some (.dy l))
def ig(h:Id->Option aa)(us:aH):Prop:= ∀p∈us,sF p (h p.1)
theorem sF.again{i:Id}{b b':aa}{x:Option aa}(n:sF (i,b) x)(m:sF (i,b') x):b'=b/\sF (i,b') (some b):=by
 rcases n with⟨sz,bb,xs,d,g1⟩ | ⟨l,d,g1⟩
 .rcases m with⟨f,e,g,a,g2⟩ | ⟨l',a,g2⟩
  .simp only at d a;have:f=sz/\e=bb/\g=xs:=by
    rcases g1 with rfl | rfl <;> rcases g2 with g2 | g2 <;> simp at g2 <;> simp [g2]
   obtain⟨rfl,rfl,rfl⟩:=this;exact⟨by rw [d,a], .inl ⟨_,_,_,a, .inr (by rw [d])⟩⟩
  .rcases g1 with rfl | rfl <;> rcases g2 with⟨cs,g2,_⟩ | g2 <;> simp at g2
 .rcases m with⟨f,e,g,a,g2⟩ | ⟨l',a,g2⟩
  .rcases g2 with rfl | rfl <;> rcases g1 with⟨cs,g1,_⟩ | g1 <;> simp at g1
  .simp only at d a;have:l'=l:=by
    rcases g1 with⟨cs,rfl,g1⟩ | rfl
    .rcases g2 with⟨k,g2,j⟩ | g2
     .simp only [Wj,aa.box.injEq] at g2;subst g2;rw [g1] at j;simpa using j.symm
     .simp at g2
    .rcases g2 with⟨k,g2,j⟩ | g2
     .simp at g2
     .simpa using g2.symm
   subst this;exact⟨by rw [d,a], .inr ⟨_,a, .inr (by rw [d])⟩⟩
theorem HS.shut(hs:HS c w h ρ O){i:Id}{b:aa}(m:sF (i,b) (h i)):
  ∃a,Le w ρ O w ρ a/\HS c w (aK h i (some b)) ρ a/\(∀j,a j=O j\/a j=none)/\a i=none/\∀j,j≠i->a j=O j:=by
 have k:∀(f:Id->Option aa) (v:Option aa),f i=v->aK f i v=f:=by
  intro f v h;funext j;unfold aK;split
  .rename_i e;rw [e,h]
  .rfl
 have rel:∀{x:Option aa},HS c w (aK h i x) ρ (aK O i none)->∃a,Le w ρ O w ρ a/\HS c w (aK h i x) ρ a/\(∀j,a j=O j\/a j=none)/\a i=none/\∀j,j≠i->a j=O j:=by
  intro x p;exact⟨_,Le.release,p,λj=>by
   by_cases e:j=i
   .subst e;right;simp
   .left;exact ay _ _ e,by simp,λj e=>ay _ _ e⟩
 have same:h i=some b->O i=none->∃a,Le w ρ O w ρ a/\HS c w (aK h i (some b)) ρ a/\(∀j,a j=O j\/a j=none)/\a i=none/\∀j,j≠i->a j=O j:=by intro n o;exact⟨O,Le.refl,by rw [k _ _ n];exact hs,λj=> .inl rfl,o,λ_ _=>rfl⟩
 rcases m with⟨sz,bb,xs,e,d⟩ | ⟨l,e,d⟩
 .simp only at e;subst e;rcases d with d | d
  .exact rel (hs.freeze d)
  .obtain⟨_,_,_,g⟩:=hs.ah i _ d;exact same d (g rfl)
 .simp only at e;subst e;rcases d with⟨cs,d,hl⟩ | d
  .exact rel (hs.Pr d hl)
  .obtain⟨_,_,g,_⟩:=hs.ah i _ d;exact same d g
theorem vL(v:AV):ig h (iH h v):=by
 intro p a;unfold iH at a;split at a
 .split at a
  .rename_i i sz b xs d;simp only [WA] at a;subst a;exact .inl ⟨sz,b,xs,rfl, .inl d⟩
  .cases a
 .split at a
  .rename_i i _ _ _ sz b xs d;simp only [WA] at a;subst a;exact .inl ⟨sz,b,xs,rfl, .inl d⟩
  .cases a
 .split at a
  .rename_i i _ cs d;split at a
   .rename_i l hl;simp only [WA] at a;subst a;exact .inr ⟨l,rfl, .inl ⟨cs,d,hl⟩⟩
   .cases a
  .cases a
 .cases a
theorem ig.append{us vs:aH}(b:ig h us)(d:ig h vs):ig h (us++vs):=by
 intro p a;rcases WK.1 a with a | a
 .exact b p a
 .exact d p a
theorem BG:∀(vs:List AV),ig h (nK h vs)
 | []=>by intro p a;cases a
 | v::vs=>(vL v).append (BG vs)
theorem BI(v:AV):ig h (iw h v):=by
 unfold iw;split
 .exact BG _
 .exact vL v
theorem HS.GX:∀{us:aH} {h:Id->Option aa} {O:Id->Option Nat},HS c w h ρ O->ig h us->
  ∃O',Le w ρ O w ρ O'/\HS c w (aP h us) ρ O'/\(∀i,O' i=O i\/O' i=none)/\(∀p∈us,O' p.1=none)/\∀i,(∀p∈us,p.1≠i)->O' i=O i
 | [],h,O,hs,_=>⟨O,Le.refl,hs,λi=> .inl rfl,by simp,λ_ _=>rfl⟩
 | (i,b)::us,h,O,hs,d=>by
  have k:=d (i,b) Wl;obtain⟨v,g1,n,o,q,r⟩:=hs.shut k;have g:ig (aK h i (some b)) us:=by
   intro p a;have f:=d p (Wn _ a);by_cases e:p.1=i
   .obtain⟨j,x⟩:=p;simp only at e f;subst e;rw [aF];exact(k.again f).2
   .rw [ay _ _ e];exact f
  obtain⟨m,k1,k2,k3,t,u⟩:=HS.GX n g;refine⟨m,g1.trans k1,k2,λj=> ?_,λp a=> ?_,λj l=> ?_⟩
  .rcases k3 j with e | e
   .rw [e];exact o j
   .exact .inr e
  .rcases WC.1 a with rfl | a
   .rcases k3 i with e | e
    .rw [e];exact q
    .exact e
   .exact t p a
  .rw [u j (λp a=>l p (Wn _ a)),r j (λe=>l (i,b) Wl e.symm)]
theorem yC(hs:HS c w h ρ O){v:AV}{x:T}(a:ei h v=some x){i:Id}{ah:Nat}(d:uc v i)(ho:O i=some ah):∃p∈iH h v,p.1=i:=by
 rcases d with rfl | ⟨sz,off,n,rfl⟩ | ⟨off,rfl⟩
 .simp only [ei] at a;split at a
  .rename_i fz sz b xs d;cases fz
   .exact⟨(i, .sl true sz b xs),by simp [iH,d],rfl⟩
   .obtain⟨_,_,_,e⟩:=hs.ah i _ d;rw [e rfl] at ho;cases ho
  .simp at a
 .simp only [ei] at a;split at a
  .rename_i fz f b xs d;cases fz
   .exact⟨(i, .sl true f b xs),by simp [iH,d],rfl⟩
   .obtain⟨_,_,_,e⟩:=hs.ah i _ d;rw [e rfl] at ho;cases ho
  .simp at a
 .simp only [ei] at a;split at a
  .rename_i cs d;obtain⟨l,hl,_⟩:=Wk.1 a;exact⟨(i, .dy l),by simp [iH,d,hl],rfl⟩
  .rename_i l d;obtain⟨_,_,e,_⟩:=hs.ah i _ d;rw [e] at ho;cases ho
  .simp at a
theorem G1(hs:HS c w h ρ O):∀{vs:List AV} {xs:List T},mr h vs=some xs->∀{i:Id} {ah:Nat},(∃u∈vs,uc u i)->O i=some ah->∃p∈nK h vs,p.1=i
 | [],_,_,i,ah,⟨u,hu,_⟩,_=>by cases hu
 | v::vs,xs,a,i,ah,⟨u,hu,g⟩,ho=>by
  simp only [mr] at a;cases b:ei h v with
  | none=>simp [b] at a
  | some x=>
   cases f:mr h vs with
   | none=>simp [b,f] at a
   | some l=>
    rcases WC.1 hu with rfl | hu
    .obtain⟨p,d,e⟩:=yC hs b g ho;exact⟨p,WI _ d,e⟩
    .obtain⟨p,d,e⟩:=G1 hs f ⟨u,hu,g⟩ ho;exact⟨p,WE _ d,e⟩
theorem Pt(hs:HS c w h ρ O){v:AV}{xs:List T}(b:mq h v=some xs){i:Id}{ah:Nat}(a:Jp v i)(ho:O i=some ah):∃p∈iw h v,p.1=i:=by
 rcases a with a | ⟨vs,rfl,a⟩
 .have:∃x,ei h v=some x:=by
   rcases a with rfl | ⟨_,_,_,rfl⟩ | ⟨_,rfl⟩ <;> exact(Wk.1 b).elim λx d=>⟨x,d.1⟩
  obtain⟨x,d⟩:=this;obtain⟨p,f,e⟩:=yC hs d a ho;refine⟨p, ?_,e⟩;rcases a with rfl | ⟨_,_,_,rfl⟩ | ⟨_,rfl⟩ <;> exact f
 .exact G1 hs b a ho
theorem Dd{v:AV}{xs:List T}{u:Value}{O':Id->Option Nat}(hs:HS c w h ρ O)(o:ao w (AA c w O) ρ v u)(f:mq h v=some xs)(le:Le w ρ O w ρ O')(g:∀i,O' i=O i\/O' i=none)
  (l:∀p∈iw h v,O' p.1=none):aY w (AA c w O') xs u.cells.toList/\∀y∈u.cells.toList,y.oneCell'=true/\y.cells= #[y]:=by
 refine Ur hs o f (λb k=>(le.A b k).1) (λi ah m ho=> ?_);obtain⟨p,n,e⟩:=Pt hs f m ho;refine⟨.inr (hs.own i ah ho),hs.lt i ah ho,λj a=> ?_⟩;rcases g j with d | d
 .rw [d] at a;have:=hs.inj j i ah a ho;subst this;have:=l p n;rw [e,d,a] at this;cases this
 .rw [d] at a;cases a
theorem lN(hs:HS c w h ρ O){i:Id}{u:Value}(e:ρ i=some u):u.oneCell'=true/\u.cells= #[u]:=by
 cases j:h i with
 | none=>
  cases k:i.real with
  | true=>rw [(hs.cK i k j).1] at e;cases e
  | false=>
   cases i with
   | g i n=>exact hs.gone i n u e
   | _=>cases k
 | some b=>
  have:=hs.ah i b j;cases b with
  | box cs=>obtain⟨b,_,_,d,_⟩:=this;rw [e] at d;simp only [Wj] at d;subst d;exact⟨rfl,rfl⟩
  | sl fz sz b xs=>obtain⟨v,d,⟨a,cap,f,_⟩,_⟩:=this;rw [e] at d;simp only [Wj] at d;subst d;subst f;exact⟨rfl,rfl⟩
  | dy l=>obtain⟨b,d,_⟩:=this;rw [e] at d;simp only [Wj] at d;subst d;exact⟨rfl,rfl⟩
  | mp ag ks vk es=>obtain⟨b,_,_,d,_⟩:=this;rw [e] at d;simp only [Wj] at d;subst d;exact⟨rfl,rfl⟩
  | arr cs=>obtain⟨b,_,_,d,_⟩:=this;rw [e] at d;simp only [Wj] at d;subst d;exact⟨rfl,rfl⟩
  | rows b sz col rsz m es=>obtain⟨a,cap,d,_⟩:=this;rw [e] at d;simp only [Wj] at d;subst d;exact⟨rfl,rfl⟩
  | dead=>obtain⟨⟨v,d,f⟩,_⟩:=this;rw [e] at d;simp only [Wj] at d;subst d;exact f
theorem Sy(hs:HS c w h ρ O){v:AV}{u:Value}(a:ao w A ρ v u)(d:rp v=true):u.oneCell'=true/\u.cells= #[u]:=by
 cases v <;> simp only [rp,WX] at d <;> simp only [ao] at a
 case t=>exact a.r6
 case ref=>obtain⟨b,_,rfl⟩:=a;exact⟨rfl,rfl⟩
 case el=>obtain⟨_,_,_,_,_,rfl⟩:=a;exact⟨rfl,rfl⟩
 case own=>exact lN hs a
 case part=>obtain⟨_,_,_,_,_,_,_,rfl,_⟩:=a;exact⟨rfl,rfl⟩
 case row=>exact hs.gone _ _ _ a
 case rel=>obtain⟨_,_,_,_,_,rfl⟩:=a;exact⟨rfl,rfl⟩
 case fn=>obtain⟨_,_,rfl,_⟩:=a;exact⟨rfl,rfl⟩
theorem xQ(hs:HS c w h ρ O){v:AV}{u:Value}(a:ao w A ρ v u)(g:(iq v).all rp=true):aC w A ρ (iq v) u.cells.toList/\∀y∈u.cells.toList,y.oneCell'=true/\y.cells= #[y]:=by
 have one:iq v= [v]->aC w A ρ (iq v) u.cells.toList/\∀y∈u.cells.toList,y.oneCell'=true/\y.cells= #[y]:=by intro e;rw [e] at g⊢;simp only [XI,List.all_nil,XF] at g;have d:=Sy hs a g;rw [d.2];refine⟨by simp only [aC];exact⟨u,[],rfl,a,rfl⟩, ?_⟩;intro y b;simp at b;subst b;exact d
 cases v
 case agg vs=>simp only [ao] at a;obtain⟨j,rfl,d,i⟩:=a;exact⟨by simpa [iq,Value.cells] using d,by simpa [Value.cells] using i⟩
 case fn f x y=>
  cases x with
  | cons _ _=>exact one rfl
  | nil=>cases y with
   | cons _ _=>exact one rfl
   | nil=>simp only [ao,aC] at a;obtain⟨k,l,rfl,rfl,rfl⟩:=a;refine⟨by simp [iq,Value.cells,aC,ao,az], ?_⟩;intro y b;simp [Value.cells] at b;subst b;exact⟨rfl,rfl⟩
 all_goals exact one rfl
end
open Go Go.IntKind
section
variable {P:Program} {w w':World} {A A':Nat->Prop} {c:Ctx} {ρ:Id->Option Value} {O:Id->Option Nat} {s:St} {cc:Option Bool} {h:Id->Option aa}
theorem ve{b:Nat}{arr:Array Value}{t:TypeId}{a:Nat×Nat}(d:w.heap[b]? =some (.cells arr t a))(cs:Array Value)(p:Nat):(w.setRow b cs).cell? ⟨b,p,none⟩=cs[p]?:=by simp only [World.cell?,setRow_heap w b arr cs t a d];rfl
theorem l6{b:Nat}{arr:Array Value}{t:TypeId}{a:Nat×Nat}(d:w.heap[b]? =some (.cells arr t a))(p:Nat):w.cell? ⟨b,p,none⟩=arr[p]?:=by simp only [World.cell?,d];rfl
theorem su(w:World)(b:Nat)(cs:Array Value):(w.setRow b cs).heap.size=w.heap.size:=by simp [World.setRow]
theorem ud{e:Type}(off:Nat)(new a:List e)(hl:off+new.length<=a.length)(p:Nat):(cH off new a)[p]? =if off<=p/\p < off+new.length then new[p - off]? else a[p]?:=by
 unfold cH;rw [WV];have b:(a.take off).length=off:=by rw [Xk];omega
 by_cases h:p < off
 .rw [WB (by omega),if_neg (by omega),Yq,if_pos h]
 .rw [WJ (by omega),b];by_cases d:p < off+new.length
  .rw [WB (by omega),if_pos ⟨by omega,d⟩]
  .rw [WJ (by omega),if_neg (by omega),YF];congr 1;omega
theorem sr{b:Type}(off:Nat)(new a:List b)(hl:off+new.length<=a.length):(cH off new a).length=a.length:=by simp only [cH,Xc,Xk,XK];omega
theorem bh.mi{ah:Nat}:∀{l:List T} {vs:List Value} {off:Nat},aY w A l vs->(∀j v,vs[j]? =some v->w.cell? ⟨ah,off+j,none⟩=some v)->bh w A ah off l
 | [],_,_,_,_=>by simp [bh]
 | x::l,vs,off,⟨v,r,e,b,d⟩,a=>by subst e;simp only [bh];refine⟨⟨v,by simpa using a 0 v rfl,b⟩,bh.mi d λj u f=> ?_⟩;have:=a (j+1) u (by simpa using f);rw [show off+1+j=off+ (j+1) by omega];exact this
theorem bh.cells{ah:Nat}(a:∀b,A b->A' b/\w'.heap[b]? =w.heap[b]?):∀{cs:List T} {off:Nat},(∀j,j < cs.length->w'.cell? ⟨ah,off+j,none⟩=w.cell? ⟨ah,off+j,none⟩)->bh w A ah off cs->bh w' A' ah off cs
 | [],_,_,_=>by simp [bh]
 | x::cs,off,d,e=>by
  simp only [bh] at e⊢;obtain⟨⟨v,f,g⟩,i⟩:=e;refine⟨⟨v, ?_,az.mono a x v g⟩,bh.cells a (λj k=> ?_) i⟩
  .have:=d 0 (by simp);simp only [Yr] at this;rw [this];exact f
  .have:=d (j+1) (by simp;omega);rw [show off+1+j=off+ (j+1) by omega];exact this
theorem bh.append{ah:Nat}:∀{a b:List T} {off:Nat},bh w A ah off a->bh w A ah (off+a.length) b->bh w A ah off (a++b)
 | [],b,off,_,h=>by simpa using h
 | x::a,b,off,h,d=>by
  simp only [bh,Xp] at h⊢;refine⟨h.1,bh.append h.2 ?_⟩;have:off+1+a.length=off+ (x::a).length:=by simp;omega
  rw [this];exact d
theorem bh.take{ah:Nat}:∀{cs:List T} {off:Nat},bh w A ah off cs->∀n,bh w A ah off (cs.take n)
 | _,_,_,0=>by simp [bh]
 | [],_,_,n+1=>by simp [bh]
 | x::cs,off,h,n+1=>by simp only [bh,YV] at h⊢;exact⟨h.1,bh.take h.2 n⟩
theorem bq.cells{ah sz:Nat}(d:∀b,A b->A' b/\w'.heap[b]? =w.heap[b]?):∀{xs:List (List T)} {off:Nat},(∀p,off<=p->p < off+xs.length * sz->w'.cell? ⟨ah,p,none⟩=w.cell? ⟨ah,p,none⟩)->bq w A ah sz off xs->bq w' A' ah sz off xs
 | [],_,_,_=>by simp [bq]
 | cs::xs,off,f,a=>by
  simp only [bq] at a⊢;have e:(cs::xs).length * sz=sz+xs.length * sz:=by simp [Xw];omega
  refine⟨a.1,bh.cells d (λj k=>f _ (by omega) (by rw [e];omega)) a.2.1,bq.cells d (λp g i=>f p (by omega) (by rw [e];omega)) a.2.2⟩
theorem bq.set{ah sz:Nat}(i:∀b,A b->A' b/\w'.heap[b]? =w.heap[b]?):∀{xs:List (List T)} {off k:Nat} {new:List T},bq w A ah sz off xs->k < xs.length->new.length=sz->bh w' A' ah (off+k * sz) new->
  (∀p,off<=p->p < off+xs.length * sz->¬(off+k * sz<=p/\p < off+k * sz+sz)->w'.cell? ⟨ah,p,none⟩=w.cell? ⟨ah,p,none⟩)->bq w' A' ah sz off (xs.set k new)
 | [],_,_,_,_,l,_,_,_=>by simp at l
 | cs::xs,off,0,new,d,_,m,a,f=>by
  simp only [bq,YX] at d⊢;have e:(cs::xs).length * sz=sz+xs.length * sz:=by simp [Xw];omega
  exact⟨m,by simpa using a,bq.cells i (λp n o=>f p (by omega) (by rw [e];omega) (by omega)) d.2.2⟩
 | cs::xs,off,k+1,new,d,l,m,a,f=>by
  simp only [bq,YG] at d⊢;have e:(cs::xs).length * sz=sz+xs.length * sz:=by simp [Xw];omega
  have g:(k+1) * sz=sz+k * sz:=by rw [Xw];omega
  refine⟨d.1,bh.cells i (λj r=>f _ (by omega) (by rw [e];omega) (by rw [g];omega)) d.2.1,bq.set i d.2.2 (by simpa using l) m ?_ (λp n o q=>f p (by omega) (by rw [e];omega) (by rw [g];omega))⟩;rw [show off+sz+k * sz=off+ (k+1) * sz by rw [g];omega];exact a
theorem aC.cH{a l:List AV}{vs us:List Value}(h:aC w A ρ a vs)(b:aC w A ρ l us)(off:Nat):aC w A ρ (cH off l a) (cH off us vs):=by unfold Aev.cH;have:=b.length;rw [this];exact((h.take off).append b).append (h.drop _)
theorem bh.cH{ah base off:Nat}{cs l:List T}(a:bh w A ah base (cs.take off))(b:bh w A ah (base+off) l)(d:bh w A ah (base+off+l.length) (cs.drop (off+l.length)))(hl:off<=cs.length):bh w A ah base (cH off l cs):=by
 unfold Aev.cH;rw [WV];have lt:(cs.take off).length=off:=by rw [Xk];omega
 exact bh.append a (bh.append (by rw [lt];exact b) (by rw [lt];exact d))
theorem zx{t:TypeId}(g:cx P t=true){b off:Nat}{arr:Array Value}{d:TypeId}{v:Value}(f:w.heap[b]? =some (.cells arr d (0,0)))(hl:v.cells.size=P.cellsOf t)(a:off+v.cells.toList.length<=arr.size)
  (e:∀u∈v.cells.toList,u.oneCell'=true):(storeVar t ⟨b,off,none⟩ v).run P w= .ok () (w.setRow b (cH off v.cells.toList arr.toList).toArray):=by
 unfold storeVar;simp only [WR,jS g,WD,hl,ne_eq,not_true_eq_false,if_false];have:=run_storeCells_at P b off d v.cells.toList 0 arr w f (by simpa using a) e;simp only [Yr] at this;rw [this];rfl
theorem GZ{v:AV}{p:Id×aa}(a:p∈iH h v):p.1∈v.ids:=by
 unfold iH at a;split at a
 .split at a
  .simp only [WA] at a;subst a;simp [AV.ids]
  .cases a
 .split at a
  .simp only [WA] at a;subst a;simp [AV.ids]
  .cases a
 .split at a
  .split at a
   .simp only [WA] at a;subst a;simp [AV.ids]
   .cases a
  .cases a
 .cases a
theorem G2:∀{vs:List AV} {p:Id×aa},p∈nK h vs->p.1∈cy vs
 | [],p,a=>by cases a
 | v::vs,p,a=>by
  simp only [nK,WK] at a;simp only [cy,WK];rcases a with a | a
  .exact .inl (GZ a)
  .exact .inr (G2 a)
theorem G4{v:AV}{p:Id×aa}(a:p∈iw h v):p.1∈v.ids:=by
 unfold iw at a;split at a
 .simp only [AV.ids];exact G2 a
 .exact GZ a
theorem dV:∀{us:aH} {h:Id->Option aa} {i:Id},(∀p∈us,p.1≠i)->aP h us i=h i
 | [],_,_,_=>rfl
 | (j,b)::us,h,i,a=>by rw [du,dV (λp d=>a p (Wn _ d)),ay _ _ (λe=>a (j,b) Wl e.symm)]
theorem w9:∀{us:aH} {h:Id->Option aa} {i:Id} {b:aa},(∀p∈us,p.1≠i)->aP (aK h i (some b)) us=aK (aP h us) i (some b)
 | [],_,_,_,_=>rfl
 | (j,x)::us,h,i,b,f=>by
  rw [du,du,<-w9 (λp g=>f p (Wn _ g))];congr 1;funext k;have:j≠i:=λe=>f (j,x) Wl e;by_cases a:k=j
  .subst a;rw [aF,ay _ _ this,aF]
  .by_cases d:k=i
   .subst d;rw [ay _ _ a,aF,aF]
   .rw [ay _ _ a,ay _ _ d,ay _ _ d,ay _ _ a]
theorem HS.rH{us:aH}(hs:HS c w h ρ O)(a:ig h us):
  ∃O',Le w ρ O w ρ O'/\HS c w (aP h us) ρ O'/\(∀i,O' i=O i\/O' i=none)/\(∀p∈us,O' p.1=none)/\∀i,(∀p∈us,p.1≠i)->O' i=O i:=HS.GX hs a
theorem zI{b:Nat}{i:Id}(a:O i=some b)(cs:Array Value):Le w ρ O (w.setRow b cs) ρ O:=
 Le.write a rfl rfl rfl (su w b cs) λk d=>setRow_other w b k cs d
theorem dm.put{t:TypeId}{sz k off b o L cap:Nat}{bb:Bool}{xs J:List (List T)}{l:List T}{d:Value}{Q:Nat->Prop}(S:dm w A sz bb xs (.slice (some ⟨b,o,none⟩) L cap) Q)(f:iZ k off l xs=some J)(U:cx P t=true)
  (K:l.length=P.cellsOf t) (g1:aY w A l d.cells.toList) (M:∀u∈d.cells.toList,u.oneCell'=true/\u.cells= #[u]):
  ∃cs,Q b/\(storeVar t ⟨b,o+k * sz+off,none⟩ d).run P w= .ok () (w.setRow b cs)/\
   ∀A' z,(∀b',A b'->A' b'/\(w.setRow b cs).heap[b']? =w.heap[b']?)->z b->dm (w.setRow b cs) A' sz bb J (.slice (some ⟨b,o,none⟩) L cap) z:=by
 obtain⟨a',cap',E,W,X,Y,F⟩:=S;simp only [XC] at E;obtain⟨rfl,rfl,rfl⟩:=E;unfold iZ at f;cases i:xs[k]? with
 | none=>simp [i] at f
 | some cs=>
  simp only [i] at f;split at f
  .rename_i n;simp only [Wj] at f;subst f;have C:k < xs.length:=(Wm.1 i).1;rcases F with F | ⟨ah,off',arr,I,G,Z,r,q9,y⟩
   .omega
   .simp only [Wj,Xy] at G;obtain⟨rfl,rfl,_⟩:=G;obtain⟨D,v⟩:=y.get i;have N:=g1.length;have R:(k+1) * sz<=cap * sz:=Xu _ (by omega);have e2:(k+1) * sz=k * sz+sz:=Xw _ _;have e:o+k * sz+off+d.cells.toList.length<=arr.size:=by omega
    have H:=zx (P:=P) U r (by rw [<-WY,N,K]) e (λu V=>(M u V).1);refine⟨_,Z,H,λA' z g B=> ?_⟩;have x:(xs.set k (cH off l cs)).length=xs.length:=by simp
    refine⟨some ⟨b,o,none⟩,cap,by rw [x],by rw [x];exact W,X,Y, .inr ⟨b,o,_,I,rfl,B,setRow_heap w b arr _ I (0,0) r, ?_, ?_⟩⟩
    .have:=sr (o+k * sz+off) d.cells.toList arr.toList (by simpa using e);simp only [XT];rw [this];simpa using q9
    .have a:∀p,(w.setRow b (cH (o+k * sz+off) d.cells.toList arr.toList).toArray).cell? ⟨b,p,none⟩=if o+k * sz+off<=p/\p < o+k * sz+off+d.cells.toList.length then d.cells.toList[p - (o+k * sz+off)]? else w.cell? ⟨b,p,none⟩:=by
      intro p;rw [ve r,Yv,ud _ _ _ (by simpa using e),l6 r];simp
     have q:(cH off l cs).length=sz:=by rw [sr off l cs n,D]
     refine bq.set g y C q ?_ ?_
     .refine bh.cH (bh.cells g (λj m=> ?_) (v.take off)) ?_ ?_ (by omega)
      .have lt:(cs.take off).length=off:=by rw [Xk];omega
       rw [lt] at m;rw [a,if_neg (by omega)]
      .refine bh.mi (aY.mono g _ _ g1) (λj u m=> ?_);have hj':j < d.cells.toList.length:=(Wm.1 m).1;rw [a,if_pos (by omega)];rw [show o+k * sz+off+j - (o+k * sz+off)=j by omega];exact m
      .have:=v.drop (off+l.length);rw [show o+k * sz+off+l.length=o+k * sz+ (off+l.length) by omega];refine bh.cells g (λj m=> ?_) this;rw [a,if_neg (by omega)]
     .intro p h1 h2 h3;rw [a,if_neg (by omega)]
  .simp at f
theorem yt{n:Nat}{p:Bool×List (List T)}:∀{es:List Row},cP n es=some p->∃k e,es[k]? =some e/\e.n=n/\e.own=some p/\∀q,dG n q es=es.set k {e with own:=q}
 | [],h=>by simp [cP] at h
 | e::es,h=>by
  unfold cP at h;by_cases c:e.n=n
  .rw [if_pos c] at h;exact⟨0,e,rfl,c,h,λq=>by simp [dG,c]⟩
  .rw [if_neg c] at h;obtain⟨k,e',a,b,d,f⟩:=yt h;exact⟨k+1,e',by simpa using a,b,d,λq=>by simp [dG,c,f]⟩
theorem wo{es:List Row}(h:(es.map (·.n)).Nodup){j k:Nat}{x y:Row}(g:es[j]? =some x)(i:es[k]? =some y)(e:x.n=y.n):j=k:=by
 have d:(es.map (·.n))[j]? =some x.n:=by simp [g]
 have f:(es.map (·.n))[k]? =some x.n:=by simp [i,e]
 obtain⟨l,a⟩:=Wm.1 d;obtain⟨m,b⟩:=Wm.1 f;exact(List.getElem_inj h).1 (a.trans b.symm)
theorem IE:∀{l:List Nat} {k x:Nat},l.Nodup->x∉l->(l.set k x).Nodup
 | [],_,_,_,_=>by simp
 | a::l,0,x,b,d=>by simp only [YX,XJ,WC,not_or] at b d⊢;exact⟨d.2,b.2⟩
 | a::l,k+1,x,b,d=>by
  simp only [YG,XJ,WC,not_or] at b d⊢;refine⟨λhm=> ?_,IE b.2 d.2⟩;rcases Yd hm with h | h
  .exact b.1 h
  .exact d.1 h.symm
theorem PG{O':Id->Option Nat}(hs:HS c w h ρ O)(τ:Id->Option Id)(a:∀k b,O' k=some b->∃x,τ k=some x/\O x=some b)(d:∀k e x,τ k=some x->τ e=some x->k=e):∀i j b,O' i=some b->O' j=some b->i=j:=by intro i j b f g;obtain⟨x,l,x2⟩:=a i b f;obtain⟨y,m,n⟩:=a j b g;have:=hs.inj x y b x2 n;subst this;exact d i j x l m
theorem HS.putRow{i j:Id}{b bb:Bool}{sz col rsz q k ah:Nat}{es:List Row}{e:Row}{xs:List (List T)}{J:Value}{cs:Array Value}(hs:HS c w h ρ O)(hi:h i=some (.rows b sz col rsz q es))(X:h j=some (.sl false rsz bb xs))(V:es[k]? =some e)(hv:ρ j=some J)
  {a:Option Addr} {cap:Nat} (hρ:ρ i=some (.slice a es.length cap)) {off:Nat} {arr:Array Value} {t:TypeId} (ha:a=some ⟨ah,off,none⟩) (hO:O i=some ah) (hb:w.heap[ah]? =some (.cells arr t (0,0))) (hfit:off+cap * sz<=arr.size)
  (hcs:cs= (cH (off+k * sz+col) [J] arr.toList).toArray):
  ∃ρ' O',Le w ρ O (w.setRow ah cs) ρ' O'/\HS c (w.setRow ah cs) (aK (aK h j (some .dead)) i (some (.rows b sz col rsz (q+1) (es.set k ⟨q,e.cs,some (bb,xs)⟩)))) ρ' O':=by
 obtain⟨a',cap',r1,r2,r3,⟨n1,n2,n3,n4⟩,r5⟩:=hs.ah i _ hi;rw [hρ] at r1;simp only [Wj,XC] at r1;obtain⟨rfl, -,rfl⟩:=r1;have hlt:k < es.length:=(Wm.1 V).1;have R:cI w (AA c w O) ρ O i ah sz col rsz off es:=by
  rcases r5 with r5 | ⟨blk',off',arr',t',q1,q2,q3,q4,q5⟩
  .omega
  .rw [ha] at q1;simp only [Wj,Xy] at q1;obtain⟨rfl,rfl,_⟩:=q1;exact q5
 have hen:e.n < q:=n2 e (Wx V);have G:=hs.real (i:=i) (by rw [hi];simp);have Q:=hs.real (i:=j) (by rw [X];simp);have hij:j≠i:=λe=>by rw [e,hi] at X;cases X
 have N:∀n,Id.g i n≠j:=λn=>aU Q;obtain⟨v',s1,s2,_⟩:=hs.ah j _ X;rw [hv] at s1;cases s1;have I:=R.get V;have hcol:=I.2.1;have hbnd:(k+1) * sz<=cap * sz:=Xu _ (by omega);have e2:(k+1) * sz=k * sz+sz:=Xw _ _;have L:off+k * sz+col+ [J].length<=arr.toList.length:=by simp;omega
 let ρ':Id->Option Value:=aK ρ (.g i q) (some J);let O':Id->Option Nat:=λx=>if x= .g i q then O j else if x=j then none else if x= .g i e.n then none else O x;have F:∀x,x≠ .g i q->x≠j->x≠ .g i e.n->O' x=O x:=λx o H S=>by simp only [O',if_neg o,if_neg H,if_neg S]
 have hOn:O' (.g i q)=O j:=by simp only [O',if_true]
 have hOj:O' j=none:=by simp only [O',if_neg (N q).symm,if_true]
 have hOe:O' (.g i e.n)=none:=by
  have o:Id.g i e.n≠ .g i q:=by intro h;cases h;omega
  simp only [O',if_neg o,if_neg (N e.n),if_true]
 have K:∀x d,O' x=some d->(x= .g i q/\O j=some d)\/(x≠ .g i q/\x≠j/\x≠ .g i e.n/\O x=some d):=by
  intro x d l;simp only [O'] at l;split at l
  .exact .inl ⟨by assumption,l⟩
  .split at l
   .cases l
   .split at l
    .cases l
    .exact .inr ⟨by assumption,by assumption,by assumption,l⟩
 have le:Le w ρ O (w.setRow ah cs) ρ' O':=by
  refine⟨rfl,rfl,rfl,by rw [su];exact WH _,λx u l=> ?_,λd _ hn=>setRow_other w ah d _ λe=>hn i (e▸hO),λx d l=> ?_⟩
  .by_cases e:x= .g i q
   .subst e;rw [n3 q (WH _)] at l;cases l
   .simp only [ρ'];rw [ay _ _ e];exact l
  .rcases K x d l with⟨_,h⟩ | ⟨_,_,_,h⟩
   .exact .inl ⟨j,h⟩
   .exact .inl ⟨x,h⟩
 have C:∀x d,x≠i->O x=some d->(w.setRow ah cs).heap[d]? =w.heap[d]?:=λx d l r=>setRow_other w ah d _ λe=>l (hs.inj x i ah (e▸r) hO);refine⟨ρ',O',le,hs.pX le (λx y l=> ?_) (λx Z l=> ?_) (λx n=> ?_) (λx n l=> ?_) (λx n u U=> ?_) ?_ (λx d l=> ?_)⟩
 .by_cases v:x=i
  .subst v;rw [aF] at l;cases l;right;have W:(es.set k ⟨q,e.cs,some (bb,xs)⟩).length=es.length:=by simp
   refine⟨a,cap, ?_,by rw [W];exact r2,r3,⟨?_,λf E=> ?_,λn hn=> ?_,λn d r=> ?_⟩, .inr ⟨ah,off,cs,t,ha, ?_,setRow_heap w ah arr _ t (0,0) hb, ?_, ?_⟩⟩
   .rw [W];simp only [ρ'];rw [ay _ _ (aU G).symm];exact hρ
   .rw [Zr];refine IE n1 ?_;intro hm;obtain⟨f,E,e⟩:=WU.1 hm;simp only at e;have:=n2 f E;omega
   .rcases Yd E with E | rfl
    .have:=n2 f E;omega
    .simp
   .have o:Id.g x n≠ .g x q:=by intro h;cases h;omega
    simp only [ρ'];rw [ay _ _ o];exact n3 n (by omega)
   .rcases K _ d r with⟨h,_⟩ | ⟨o,_,S,h4⟩
    .cases h;exact⟨_,List.mem_set hlt _,rfl⟩
    .obtain⟨f,E,M⟩:=n4 n d h4;obtain⟨m,hm⟩:=YK.1 E;have hmk:m≠k:=λe'=>by rw [e',V] at hm;cases hm;rw [M] at S;exact S rfl
     refine⟨f,YK.2 ⟨m, ?_⟩,M⟩;rw [XS,if_neg (Za hmk)];exact hm
   .rw [F x (aU G).symm (Za hij) (aU G).symm];exact hO
   .rw [hcs,XT,sr _ _ _ L];simpa using hfit
   .have D:∀p,(w.setRow ah cs).cell? ⟨ah,p,none⟩=if off+k * sz+col<=p/\p < off+k * sz+col+1 then some J else w.cell? ⟨ah,p,none⟩:=by
     intro p;rw [ve hb,hcs,Yv,ud _ _ _ L,l6 hb];by_cases Y:off+k * sz+col<=p/\p < off+k * sz+col+1
     .rw [if_pos (by simpa using Y),if_pos Y,show p - (off+k * sz+col)=0 by omega];rfl
     .rw [if_neg (by simpa using Y),if_neg Y];simp
    refine cI.set (λd r=>le.A d r) hlt (λp p1 p2 p3=>by rw [D,if_neg (by omega)]) (λm f hm E=> ?_) ?_ R
    .have M:f.n≠e.n:=λe'=>hm (wo n1 E V e');have hfx:f.n≠q:=by have:=n2 f (Wx E);omega
     have o:Id.g x f.n≠ .g x q:=by intro h;simp only [Id.g.injEq] at h;exact hfx h.2
     have H:Id.g x f.n≠ .g x e.n:=by intro h;simp only [Id.g.injEq] at h;exact M h.2
     refine⟨by simp only [ρ'];exact ay _ _ o,F _ o (N _) H,λd r=>C _ d (aU G) r⟩
    .refine⟨I.1,hcol,λm y hm B=> ?_,J,by rw [D,if_pos (by omega)],by simp only [ρ'];exact aF _ _ _, ?_⟩
     .obtain⟨u,g1,g2⟩:=I.2.2.1 m y hm B;have hml:m < sz:=by have:=(Wm.1 B).1;rw [I.1] at this;exact this
      exact⟨u,by rw [D,if_neg (by omega)];exact g1,az.mono (λd r=>le.A d r) y u g2⟩
     .simp only;refine dm.mono (λd r=>le.A d r) (λd r=> ?_) s2;simp only [WX,if_false] at r;rw [hOn];exact⟨r,C j d hij r⟩
  .rw [ay _ _ v] at l;by_cases e3:x=j
   .subst e3;rw [aF] at l;cases l;exact .inr ⟨⟨J,by simp only [ρ'];rw [ay _ _ (N q).symm];exact hv,lN hs hv⟩,hOj⟩
   .rw [ay _ _ e3] at l;have hrx:=hs.real (i:=x) (by rw [l];simp);refine .inl ⟨l,F x (aU hrx).symm e3 (aU hrx).symm,λd r=>C x d v r,λn=> ?_⟩;have o:∀m,Id.g x n≠ .g i m:=by intro m h;cases h;exact v rfl
    exact⟨by simp only [ρ'];exact ay _ _ (o _),F _ (o _) (aU Q) (o _),λd r=>C _ d (aU G) r⟩
 .by_cases v:x=i
  .subst v;rw [aF] at l;cases l
  .rw [ay _ _ v] at l;by_cases e3:x=j
   .subst e3;rw [aF] at l;cases l
   .rw [ay _ _ e3] at l;have:=hs.cK x Z l;refine⟨?_, ?_⟩
    .simp only [ρ'];rw [ay _ _ (aU Z).symm];exact this.1
    .rw [F x (aU Z).symm e3 (aU Z).symm];exact this.2
 .rw [ay _ _ (aU G),ay _ _ (aU Q)];exact hs.eK x n
 .by_cases v:x=i
  .subst v;rw [aF] at l;cases l
  .rw [ay _ _ v] at l;by_cases e3:x=j
   .subst e3;rw [aF] at l;cases l
   .rw [ay _ _ e3] at l;have:=hs.gF x n l;have o:∀m,Id.g x n≠ .g i m:=by intro m h;cases h;exact v rfl
    refine⟨?_, ?_⟩
    .simp only [ρ'];rw [ay _ _ (o _)];exact this.1
    .rw [F _ (o _) (aU Q) (o _)];exact this.2
 .by_cases v:Id.g x n= .g i q
  .rw [v] at U;simp only [ρ',aF,Wj] at U;subst U;exact lN hs hv
  .simp only [ρ'] at U;rw [ay _ _ v] at U;exact hs.gone x n u U
 .refine PG hs (λx=>if x= .g i q then some j else if x=j then none else some x) (λx d l=> ?_) (λx y z l B=> ?_)
  .rcases K x d l with⟨o,H⟩ | ⟨o,H,_,S⟩
   .exact⟨j,by rw [if_pos o],H⟩
   .exact⟨x,by rw [if_neg o,if_neg H],S⟩
  .split at l <;> split at B
   .rename_i o H;rw [o,H]
   .split at B
    .cases B
    .simp only [Wj] at l B;subst l;rename_i h;exact(h B).elim
   .split at l
    .cases l
    .simp only [Wj] at l B;subst B;rename_i h;exact(h l).elim
   .split at l
    .cases l
    .split at B
     .cases B
     .simp only [Wj] at l B;rw [l,B]
 .rw [su];rcases K x d l with⟨_,h⟩ | ⟨_,_,_,h⟩
  .exact hs.lt _ d h
  .exact hs.lt _ d h
theorem HS.V5{i:Id}{n r:Nat}{b:Bool}{sz col rsz X:Nat}{es:List Row}{p:Bool×List (List T)}{F:List (List T)}{v:Value}{cs:Array Value}(hs:HS c w h ρ O)(Q:h i=some (.rows b sz col rsz X es))(hf:cP n es=some p)(M:O (.g i n)=some r)
  (U:ρ (.g i n)=some v) (S:dm (w.setRow r cs) (AA c (w.setRow r cs) O) rsz p.1 F v (λd=>O (.g i n)=some d)):
  HS c (w.setRow r cs) (aK h i (some (.rows b sz col rsz X (dG n (some (p.1,F)) es)))) ρ O:=by
 have le:Le w ρ O (w.setRow r cs) ρ O:=zI M _;have H:=hs.real (i:=i) (by rw [Q];simp);have o:∀x d,x≠ .g i n->O x=some d->(w.setRow r cs).heap[d]? =w.heap[d]?:=λx d j l=>setRow_other w r d _ λe=>j (hs.inj x _ r (e▸l) M);obtain⟨k,e,C,G,heo,K⟩:=yt hf;refine hs.pX le (λx y j=> ?_) (λx hr j=> ?_) (λx m=> ?_) (λx m j=> ?_) hs.gone hs.inj (λx d l=>by rw [su];exact hs.lt x d l)
 .by_cases z:x=i
  .subst z;rw [aF] at j;cases j;right;obtain⟨a,cap,r1,r2,r3,⟨V,W,n3,n4⟩,L⟩:=hs.ah x _ Q;rw [K];have D:(es.set k {e with own:=some (p.1,F)}).length=es.length:=by simp
   have E:(es.set k {e with own:=some (p.1,F)}).map (·.n)=es.map (·.n):=by
    rw [Zr];refine XU λm=> ?_;rw [XS];split
    .rename_i h;subst h;have:=(Wm.1 C).1;rw [if_pos (by simpa using this)];simp [C]
    .rfl
   refine⟨a,cap,by rw [D];exact r1,by rw [D];exact r2,r3,⟨by rw [E];exact V,λf q=> ?_,n3,λm d l=> ?_⟩, ?_⟩
   .rcases Yd q with q | rfl
    .exact W f q
    .exact W e (Wx C)
   .obtain⟨f,q,N⟩:=n4 m d l;have:m∈(es.set k {e with own:=some (p.1,F)}).map (·.n):=by rw [E];exact WU.2 ⟨f,q,N⟩
    obtain⟨f',h1,h2⟩:=WU.1 this;exact⟨f',h1,h2⟩
   .rcases L with L | ⟨ah,off,arr,t,q1,Y,q3,q4,Z⟩
    .exact .inl L
    .have B:(w.setRow r cs).heap[ah]? =w.heap[ah]?:=o x ah (aU H).symm Y;refine .inr ⟨ah,off,arr,t,q1,Y,by rw [B];exact q3,q4, ?_⟩;have J:=Z.get C;refine cI.set (λd l=>le.A d l) (Wm.1 C).1 (λ_ _ _ _=>oq B) (λm f hm q=>⟨rfl,rfl,λd l=>o _ d (λh=> ?_) l⟩) ?_ Z
     .simp only [Id.g.injEq] at h;exact hm (wo V q C (by rw [h.2,G]))
     .obtain⟨a1,a2,a3,u,a4,I,a7⟩:=J;refine⟨a1,a2,λm y hm hy=> ?_,u,by rw [oq B];exact a4,I, ?_⟩
      .obtain⟨u',g1,g2⟩:=a3 m y hm hy;exact⟨u',by rw [oq B];exact g1,az.mono (λd l=>le.A d l) y u' g2⟩
      .simp only;rw [G] at I⊢;rw [I] at U;cases U;exact S
  .rw [ay _ _ z] at j;have R:=hs.real (i:=x) (by rw [j];simp);refine .inl ⟨j,rfl,λd l=>o x d (aU R).symm l,λm=>⟨rfl,rfl,λd l=>o _ d (λh=> ?_) l⟩⟩;simp only [Id.g.injEq] at h;exact z h.1
 .by_cases z:x=i
  .subst z;rw [aF] at j;cases j
  .rw [ay _ _ z] at j;exact hs.cK x hr j
 .rw [ay _ _ (aU H)];exact hs.eK x m
 .by_cases z:x=i
  .subst z;rw [aF] at j;cases j
  .rw [ay _ _ z] at j;exact hs.gF x m j
theorem UC{R:Type}{t:TypeId}{a v:AV}{va y:Value}{K:aH->Option R}{r:R}(hs:HS c w s.h ρ O)(M:ao w (AA c w O) ρ a va)(hx:ao w (AA c w O) ρ v y)(f:jU P s t a v K=some r):
  ∃us w' ρ' O',K us=some r/\(Instr.storeAt t va y).run P w= .ok () w'/\Le w ρ O w' ρ' O'/\HS c w' (aP s.h us) ρ' O':=by
 unfold jU at f;cases ht:cx P t
 .simp [ht] at f
 simp only [ht,cond_true] at f;split at f
 .rename_i i off;split at f
  .rename_i cs H;split at f
   .rename_i q;obtain⟨S,J,c3⟩:=q;obtain⟨b,arr,t',h1,h2,h3,h4,h5,h6⟩:=Ay hs H;simp only [ao] at M;obtain⟨b',x,rfl⟩:=M;rw [h1] at x;simp only [Wj,X3,Xy] at x;obtain⟨rfl,_⟩:=x;obtain⟨g1,Z⟩:=xQ hs hx J;have gl:=g1.length;have hl:=h4.length;have D:off+y.cells.toList.length<=arr.size:=by rw [gl];simp only [WY] at hl;omega
    have B:=zx (P:=P) ht h3 (by rw [<-WY,gl,S]) D (λu hu=>(Z u hu).1);have le:Le w ρ O (w.setRow b (cH off y.cells.toList arr.toList).toArray) ρ O:=zI h2 _;refine⟨_,_,ρ,O,f,by simpa [Instr.storeAt,Instr.sureAddr] using B,le, ?_⟩;rw [eC];refine hs.write h2 le (λk f=>setRow_other w b k _ f) _ ?_ (by rw [H];simp);refine⟨b,_,t',h1,h2,setRow_heap w b arr _ t' (0,0) h3, ?_, ?_⟩
    .have m:∀(W:List AV) (vs:List Value),aC w (AA c w O) ρ W vs->aC _ _ ρ W vs:=λW vs hr=>aC.mono (λb hb=>le.A b hb) le.fq W vs hr;exact aC.cH (m _ _ h4) (m _ _ g1) off
    .intro u hu;simp only [cH,WK] at hu;rcases hu with(hu | hu) | hu
     .exact h5 u (Yy hu)
     .exact Z u hu
     .exact h5 u (YP hu)
   .simp at f
  .simp at f
 .rename_i i sz k off;split at f
  .rename_i g bb xs H;obtain⟨l,hsn,f⟩:=Wk.1 f;split at f
   .rename_i q;obtain⟨rfl,S,J⟩:=q;replace f:=aS f (.inl rfl);obtain⟨ys,I,f⟩:=f;have E:∀p∈iw s.h v,p.1≠i:=by
     intro p hp e;have:=G4 hp;rw [e] at this;simp only [List.contains_eq_mem,decide_eq_false_iff_not] at J;exact J this
    obtain⟨G,cz,Q,o1,o2,o3⟩:=HS.rH hs (BI (h:=s.h) v);obtain⟨g1,Z⟩:=Dd hs hx hsn cz o1 o2;have N:aP s.h (iw s.h v) i=some (.sl false g bb xs):=by rw [dV E];exact H
    obtain⟨vv,q0,a',cap',V,q2,q3,q4,q5⟩:=o6 Q N;simp only [ao] at M;obtain⟨b,o,L,cap,x,rfl⟩:=M;rw [q0] at x;simp only [Wj] at x;subst x;simp only [XC] at V;obtain⟨rfl,rfl,rfl⟩:=V;unfold iZ at I;cases Y:xs[k]? with
    | none=>simp [Y] at I
    | some cs=>
     simp only [Y] at I;split at I
     .rename_i hfit0;simp only [Wj] at I;subst I;have hlt:k < xs.length:=(Wm.1 Y).1;rcases q5 with q5 | ⟨ah,off',arr,t',q6,q7,q8,q9,q10⟩
      .omega
      .simp only [Wj,Xy] at q6;obtain⟨rfl,rfl,_⟩:=q6;simp only [WX,if_false] at q7;obtain⟨lcs,hcs⟩:=q10.get Y;have gl:=g1.length;have hbnd:(k+1) * g<=cap * g:=Xu _ (by omega);have e2:(k+1) * g=k * g+g:=Xw _ _;have D:o+k * g+off+y.cells.toList.length<=arr.size:=by omega
       have B:=zx (P:=P) ht q8 (by rw [<-WY,gl,S]) D (λu hu=>(Z u hu).1);have F:Le w ρ G (w.setRow b (cH (o+k * g+off) y.cells.toList arr.toList).toArray) ρ G:=zI q7 _;refine⟨_,_,ρ,G,f,by simpa [Instr.storeAt,Instr.sureAddr] using B,cz.trans F, ?_⟩;rw [du,w9 E];refine Q.write q7 F (λk f=>setRow_other w b k _ f) _ ?_ (by rw [N];simp);refine⟨_,q0, ?_,by simp⟩;have hl2:(xs.set k (cH off l cs)).length=xs.length:=by simp
       refine⟨some ⟨b,o,none⟩,cap,by rw [hl2],by rw [hl2];exact q2,q3,q4, .inr ⟨b,o,_,t',rfl,by simpa using q7,setRow_heap w b arr _ t' (0,0) q8, ?_, ?_⟩⟩
       .have:=sr (o+k * g+off) y.cells.toList arr.toList (by simpa using D);simp only [XT];rw [this];simpa using q9
       .have z:∀p,(w.setRow b (cH (o+k * g+off) y.cells.toList arr.toList).toArray).cell? ⟨b,p,none⟩=if o+k * g+off<=p/\p < o+k * g+off+y.cells.toList.length then y.cells.toList[p - (o+k * g+off)]? else w.cell? ⟨b,p,none⟩:=by
         intro p;rw [ve q8,Yv,ud _ _ _ (by simpa using D),l6 q8];simp
        have X:∀b',AA c w G b'->AA c (w.setRow b (cH (o+k * g+off) y.cells.toList arr.toList).toArray) G b'/\(w.setRow b (cH (o+k * g+off) y.cells.toList arr.toList).toArray).heap[b']? =w.heap[b']?:=λb' hb'=>F.A b' hb';have lrepl:(cH off l cs).length=g:=by rw [sr off l cs hfit0,lcs]
        refine bq.set X q10 hlt lrepl ?_ ?_
        .refine bh.cH (bh.cells X (λj T=> ?_) (hcs.take off)) ?_ ?_ (by omega)
         .have lt:(cs.take off).length=off:=by rw [Xk];omega
          rw [lt] at T;rw [z,if_neg (by omega)]
         .refine bh.mi (aY.mono X _ _ g1) (λj u T=> ?_);have hj':j < y.cells.toList.length:=(Wm.1 T).1;rw [z,if_pos (by omega)];rw [show o+k * g+off+j - (o+k * g+off)=j by omega];exact T
         .have:=hcs.drop (off+l.length);rw [show o+k * g+off+l.length=o+k * g+ (off+l.length) by omega];refine bh.cells X (λj T=> ?_) this;rw [z,if_neg (by omega)]
        .intro p h1 h2 h3;rw [z,if_neg (by omega)]
     .simp at I
   .simp at f
  .rename_i bb g col rsz nx es H;split at f
   .rename_i j;split at f
    .rename_i rsz' b' xs T;split at f
     .rename_i q;obtain⟨rfl,rfl,rfl,S,J⟩:=q;replace f:=aS f (.inl rfl);obtain⟨e,he,f⟩:=f;obtain⟨a,cap,r1,r2,r3,r4,r5⟩:=hs.ah i _ H;simp only [ao] at M hx;obtain⟨b,o,L,cap',x,rfl⟩:=M;have e1':=x;rw [r1] at x;simp only [Wj,XC] at x;obtain⟨rfl,rfl,rfl⟩:=x;have hlt:k < es.length:=(Wm.1 he).1;rcases r5 with r5 | ⟨ah,off',arr,t',V,q2,q3,q4,q5⟩
      .omega
      .simp only [Wj,Xy] at V;obtain⟨rfl,rfl,_⟩:=V;have U:=lN hs hx;have hcol:=(q5.get he).2.1;have hbnd:(k+1) * g<=cap * g:=Xu _ (by omega);have e2:(k+1) * g=k * g+g:=Xw _ _;have C:y.cells.toList= [y]:=by rw [U.2]
       have B:=zx (P:=P) (w:=w) (v:=y) ht q3 (by rw [U.2,S];rfl) (off:=o+k * g+off) (by rw [C];simp;omega) (λu hu=>by rw [C,WA] at hu;subst hu;exact U.1);rw [C] at B;obtain⟨ρ',O',le,hs'⟩:=hs.putRow H T he hx r1 rfl q2 q3 q4 rfl;refine⟨_,_,ρ',O',f,by simpa [Instr.storeAt,Instr.sureAddr] using B,le, ?_⟩;rw [du,eC];exact hs'
     .simp at f
    .simp at f
   .simp at f
  .simp at f
 .rename_i i sz n k off;split at f
  .rename_i b g col rsz nx es H;replace f:=aS f (.inl rfl);obtain⟨p,hp,f⟩:=f;replace f:=Wk.1 f;obtain⟨l,hsn,f⟩:=f;split at f
   .rename_i q;obtain⟨rfl,S,J⟩:=q;replace f:=aS f (.inl rfl);obtain⟨ys,I,f⟩:=f;have E:∀p∈iw s.h v,p.1≠i:=by
     intro p hp e;have:=G4 hp;rw [e] at this;simp only [List.contains_eq_mem,decide_eq_false_iff_not] at J;exact J this
    obtain⟨G,cz,Q,o1,o2,o3⟩:=HS.rH hs (BI (h:=s.h) v);obtain⟨g1,Z⟩:=Dd hs hx hsn cz o1 o2;have N:aP s.h (iw s.h v) i=some (.rows b g col rsz nx es):=by rw [dV E];exact H
    obtain⟨vv,q0,V⟩:=zr (s:=⟨s.t,aP s.h (iw s.h v)⟩) Q N hp;simp only [ao] at M;obtain⟨bk,o,L,cap,x,rfl⟩:=M;rw [q0] at x;simp only [Wj] at x;subst x;obtain⟨cs,hOb,B,hsl⟩:=V.put (P:=P) I ht S g1 Z;have F:Le w ρ G (w.setRow bk cs) ρ G:=zI hOb _;refine⟨_,_,ρ,G,f,by simpa [Instr.storeAt,Instr.sureAddr] using B,cz.trans F, ?_⟩;rw [du,w9 E];exact Q.V5 N hp hOb q0 (hsl _ _ (λd hd=>F.A d hd) hOb)
   .simp at f
  .simp at f
 .simp at f
theorem JQ(t:TypeId)(cells:Array Value):(newRow t cells).run P w= .ok ⟨w.heap.size,0,none⟩ (w.alloc (.cells cells t)):=by simp [newRow]
theorem ma(o:Obj):(w.alloc o).heap[w.heap.size]? =some o:=by show(w.heap.push o)[w.heap.size]? =some o;simp
theorem HS.IA{i:Id}(hs:HS c w h ρ O)(a:h i=none){cs:List AV}{vs:List Value}(t:TypeId)(f:aC w (AA c w O) ρ cs vs)(d:∀u∈vs,u.oneCell'=true/\u.cells= #[u])(hrl:i.real=true:=by rfl):
  Le w ρ O (w.alloc (.cells vs.toArray t)) (aK ρ i (some (.pointer (some ⟨w.heap.size,0,none⟩)))) (aK O i (some w.heap.size))/\
  HS c (w.alloc (.cells vs.toArray t)) (aK h i (some (.box cs))) (aK ρ i (some (.pointer (some ⟨w.heap.size,0,none⟩)))) (aK O i (some w.heap.size)):=by
 have le:=Le.alloc hs hrl a (.cells vs.toArray t) (.pointer (some ⟨w.heap.size,0,none⟩)) (some w.heap.size) (.inr rfl);refine⟨le,hs.alloc hrl a _ _ _ (.inr rfl) _ ⟨w.heap.size,vs.toArray,t,by simp,by simp,ma _, ?_,d⟩⟩;exact aC.mono (λb e=>le.A b e) le.fq _ _ f
theorem HS.RP{i:Id}(hs:HS c w h ρ O)(a:h i=none){cs:List AV}{arr:Array Value}(t:TypeId)(f:aC w (AA c w O) ρ cs arr.toList)(d:∀u∈arr.toList,u.oneCell'=true/\u.cells= #[u])(hrl:i.real=true:=by rfl):
  Le w ρ O (w.alloc (.cells arr t)) (aK ρ i (some (.slice (some ⟨w.heap.size,0,none⟩) 1 1))) (aK O i (some w.heap.size))/\
  HS c (w.alloc (.cells arr t)) (aK h i (some (.arr cs))) (aK ρ i (some (.slice (some ⟨w.heap.size,0,none⟩) 1 1))) (aK O i (some w.heap.size)):=by
 have le:=Le.alloc hs hrl a (.cells arr t) (.slice (some ⟨w.heap.size,0,none⟩) 1 1) (some w.heap.size) (.inr rfl);refine⟨le,hs.alloc hrl a _ _ _ (.inr rfl) _ ⟨w.heap.size,arr,t,by simp,by simp,ma _, ?_,d⟩⟩;exact aC.mono (λb e=>le.A b e) le.fq _ _ f
theorem IN{u:Value}{x:T}(e:qo u=some x):az w A x u:=by
 cases u <;> simp only [qo,Wj,reduceCtorEq] at e
 case slice a l b=>split at e <;> simp_all;subst e;simp [az]
 case pointer a=>split at e <;> simp_all;subst e;simp [az]
 case map a=>split at e <;> simp_all;subst e;simp [az]
 all_goals (subst e;simp [az])
theorem qp:∀{us:List Value} {l:List T},mQ us=some l->aY w A l us
 | [],l,e=>by simp only [mQ,Wj] at e;subst e;rfl
 | u::us,l,e=>by simp only [mQ] at e;obtain⟨x,a,e⟩:=Wk.1 e;obtain⟨l',b,e⟩:=Wk.1 e;simp only [Wj] at e;subst e;exact⟨u,us,rfl,IN a,qp b⟩
theorem ph{t:TypeId}{l:List T}(e:jv P t=some l):∃i z,P.info? t=some i/\i.zero=some z/\mQ z.cells.toList=some l:=by
 unfold jv at e;split at e
 .rename_i i a;split at e
  .rename_i z b;exact⟨i,z,a,b,e⟩
  .simp at e
 .simp at e
theorem Pp(off:Nat)(v cells:Array Value)(d:off+v.size<=cells.size):(v.zipIdx.foldl (λcs (x:Value×Nat)=>cs.setIfInBounds (off+x.2) x.1) cells).toList=cH off v.toList cells.toList:=by
 obtain⟨g1,b⟩:=Go.Great.foldl_set off v.toList 0 cells;have e:v.zipIdx.foldl (λcs (x:Value×Nat)=>cs.setIfInBounds (off+x.2) x.1) cells= (v.toList.zipIdx 0).foldl (λcs (x:Value×Nat)=>cs.setIfInBounds (off+x.2) x.1) cells:=by rw [<-Array.foldl_toList,Array.toList_zipIdx]
 rw [e];apply XU;intro p;rw [Xs,b p,ud off v.toList cells.toList (by simpa using d)];simp only [Yr,WY,Xs];by_cases a:off<=p/\p < off+v.size
 .rw [if_pos ⟨a.1,a.2,by omega⟩,if_pos a]
 .rw [if_neg (by omega),if_neg a]
inductive uO (w:World) (A:Nat->Prop) (ρ:Id->Option Value) (place:Nat->Option (Nat×Nat)):List (Nat×List AV)->List (Nat×Value)->Prop
 | nil:uO w A ρ place [] []
 | cons {off:Nat} {l:List AV} {f:Nat} {v:Value} {ls:List (Nat×List AV)} {vs:List (Nat×Value)} (hp:place f=some (off,l.length)) (hr:aC w A ρ l v.cells.toList) (h1:∀u∈v.cells.toList,u.oneCell'=true/\u.cells= #[u])
   (rest:uO w A ρ place ls vs):uO w A ρ place ((off,l)::ls) ((f,v)::vs)
theorem GL{a:Nat->Option (Nat×Nat)}:∀{j:List (Nat×List AV)} {vs:List (Nat×Value)} {i out:List AV} {cells:Array Value},uO w A ρ a j vs->vU j i=some out->aC w A ρ i cells.toList->(∀u∈cells.toList,u.oneCell'=true/\u.cells= #[u])->
  ∃r,Instr.fill a cells vs=some r/\aC w A ρ out r.toList/\∀u∈r.toList,u.oneCell'=true/\u.cells= #[u]
 | [],_,i,out,cells, .nil,hl,d,e=>by simp only [vU,Wj] at hl;subst hl;exact⟨cells,rfl,d,e⟩
 | (off,l)::j,(f,v)::vs,i,out,cells, .cons y o n m,hl,d,e=>by
  simp only [vU] at hl;split at hl
  .rename_i t;have k:=o.length;have z:=d.length;simp only [WY] at k z;have g:off+v.cells.size<=cells.size:=by omega
   have b:=Pp off v.cells cells g;obtain⟨r,p,q,e3⟩:=GL (cells:=v.cells.zipIdx.foldl (λcs (x:Value×Nat)=>cs.setIfInBounds (off+x.2) x.1) cells) m hl (by
    rw [b];unfold cH;rw [show v.cells.toList.length=l.length by simpa using k];exact((d.take off).append o).append (d.drop _)) (by
    intro u hu;rw [b] at hu;simp only [cH,WK] at hu;rcases hu with(hu | hu) | hu
    .exact e u (Yy hu)
    .exact n u hu
    .exact e u (YP hu))
   refine⟨r, ?_,q,e3⟩;unfold Instr.fill;simp only [y];rw [if_neg (by simp [k];omega)];exact p
  .simp at hl
theorem I2{t:TypeId}{f:Nat}{p:Nat×TypeId}(e:wH P t f=some p)(k:sc P t=true):
  cx P p.2=true/\((∃a,P.underlying t=some (.struct a)/\(a.toList.map λx=>(x.offset,P.cellsOf x.type))[f]? =some (p.1,P.cellsOf p.2))\/
   ∃n e,P.underlying t=some (.array n e)/\p= (f * P.cellsOf e,e)):=by
 unfold wH at e;split at e
 .rename_i q g;simp only [Wj] at e;subst e;obtain⟨a,x,b,d,i,j⟩:=BB g;refine⟨j, .inl ⟨a,b, ?_⟩⟩;rw [Xh,Xs,d];simp [i]
 .split at e
  .rename_i n u g;simp only [Wj] at e;subst e;obtain⟨b,d⟩:=Ek g;exact⟨d, .inr ⟨n,u,b,rfl⟩⟩
  .simp at e
theorem I4{a:Act}{g:Option Gs}{t:TypeId}(hs:HS c w s.h ρ O)(n:SS w (AA c w O) ρ s.t a.tmps)(m:l0 a.tmps g)(l:sc P t=true)(b:Nat->Option (Nat×Nat))
  (d:∀f p,wH P t f=some p->b f=some (p.1,P.cellsOf p.2)):
  ∀{k:List (Nat×Operand)} {j:List (Nat×List AV)},qv P t (s.get g) k=some j->uO w (AA c w O) ρ b j (k.map λx=>(x.1,a.eval x.2))
 | [],j,e=>by simp only [qv,Wj] at e;subst e;exact .nil
 | (f,o)::k,j,e=>by
  simp only [qv] at e;obtain⟨p,u,e⟩:=Wk.1 e;split at e
  .rename_i i;obtain⟨q,v,e⟩:=Wk.1 e;simp only [Wj] at e;subst e;have y:=SS.get (h:=s.h) n m o;obtain⟨g1,r⟩:=xQ hs y i.2;exact .cons (by rw [d f p u,show(St.get ⟨s.t,s.h⟩ g o)=s.get g o from rfl,i.1]) g1 r (I4 hs n m l b d v)
  .simp at e
theorem L9{a:Act}{g:Option Gs}{t:TypeId}{o:Array (Nat×Operand)}{M:AV}(hs:HS c w s.h ρ O)(Y:SS w (AA c w O) ρ s.t a.tmps)(X:l0 a.tmps g)(e:xO P t (s.get g) o.toList=some M):
  ∃v,(Instr.build t (o.map λ(i,x)=>(i,a.eval x))).run P w= .ok v w/\ao w (AA c w O) ρ M v:=by
 unfold xO at e;split at e
 .rename_i b;obtain⟨z,Z,e⟩:=Wk.1 e;obtain⟨l,hl,e⟩:=Wk.1 e;obtain⟨cs,Q,e⟩:=Wk.1 e;simp only [Wj] at e;subst e;obtain⟨i,zv,D,G,S⟩:=ph Z;have F:aY w (AA c w O) z zv.cells.toList:=qp S;have V:(o.map λ(i,x)=>(i,a.eval x)).toList=o.toList.map λx=>(x.1,a.eval x.2):=by simp
  have key:∀j:Nat->Option (Nat×Nat),(∀f p,wH P t f=some p->j f=some (p.1,P.cellsOf p.2))->∃r,Instr.fill j zv.cells (o.map λ(i,x)=>(i,a.eval x)).toList=some r/\aC w (AA c w O) ρ cs r.toList/\∀u∈r.toList,u.oneCell'=true/\u.cells= #[u]:=by intro j y;rw [V];exact GL (I4 hs Y X b j y hl) Q (aC.mR F) F.one
  have E:∀r:Array Value,P.built t (o.map λ(i,x)=>(i,a.eval x)).toList=some r->aC w (AA c w O) ρ cs r.toList->(∀u∈r.toList,u.oneCell'=true/\u.cells= #[u])->
    ∃v,(Instr.build t (o.map λ(i,x)=>(i,a.eval x))).run P w= .ok v w/\ao w (AA c w O) ρ (.agg cs) v:=by
   intro r W m J;exact⟨_,run_build w t _ r W,by simp only [ao];exact⟨r.toList,by simp,m,J⟩⟩
  cases k:P.underlying t with
  | none=>simp [sc,k] at b
  | some d=>
   cases d <;> simp only [sc,k,WX] at b
   case struct C=>
    have q:C.toList.mapM (λf=>(P.info? f.type).map λi=>(f.offset,i.size))=some (C.toList.map λx=>(x.offset,P.cellsOf x.type)):=by
     generalize C.toList=l at b;induction l with
     | nil=>rfl
     | cons f l ih=>simp only [XI,Ww] at b;obtain⟨d,K⟩:=X5.1 b.1;obtain⟨i,D,B⟩:=yI K;simp only [ZF,D,X4,Option.bind_eq_bind,Wq,ih b.2,Option.pure_def,WL,B]
    obtain⟨r,H,I,e3⟩:=key ((C.toList.map λx=>(x.offset,P.cellsOf x.type)).toArray[·]?) (λf p L=>by
     obtain⟨_,h | ⟨n,e,h,_⟩⟩:=I2 L (by simp [sc,k,b])
     .obtain⟨N,m,J⟩:=h;rw [k] at m;simp only [Wj,TypeDesc.struct.injEq] at m;subst m;simpa using J
     .rw [k] at h;simp at h)
    refine E r ?_ I e3;simp only [Program.built,D,k,G,q];exact H
   case array n e=>
    obtain⟨d,K⟩:=X5.1 b;obtain⟨U,R,B⟩:=yI K;obtain⟨r,H,I,e3⟩:=key (λi=>some (i * U.size,U.size)) (λf p L=>by
     obtain⟨_,⟨N,m,_⟩ | ⟨n',e',h,T⟩⟩:=I2 L (by simp [sc,k,b])
     .rw [k] at m;simp at m
     .rw [k] at h;simp only [Wj,TypeDesc.array.injEq] at h;obtain⟨rfl,rfl⟩:=h;subst T;simp [B])
    refine E r ?_ I e3;simp only [Program.built,D,k,G,R];exact H
 .simp at e
end
open Go Go.IntKind
section
variable {P:Program} {w w':World} {A A':Nat->Prop} {c:Ctx} {ρ:Id->Option Value} {O:Id->Option Nat} {s:St} {cc:Option Bool} {h:Id->Option aa}
def cN(w:World)(A:Nat->Prop)(sz:Nat):List (List T)->List (List Value)->Prop
 | [],vss=>vss= []
 | cs::xs,vss=>∃vs r,vss=vs::r/\cs.length=sz/\aY w A cs vs/\cN w A sz xs r
theorem cN.mono{sz:Nat}(a:∀b,A b->A' b/\w'.heap[b]? =w.heap[b]?):∀{xs:List (List T)} {vss:List (List Value)},cN w A sz xs vss->cN w' A' sz xs vss
 | [],_,h=>h
 | cs::xs,vss,⟨vs,r,e,d,f,g⟩=>⟨vs,r,e,d,aY.mono a cs vs f,cN.mono a g⟩
theorem cN.length{sz:Nat}:∀{xs:List (List T)} {vss:List (List Value)},cN w A sz xs vss->vss.length=xs.length/\vss.flatten.length=xs.length * sz
 | [],vss,h=>by simp only [cN] at h;subst h;simp
 | cs::xs,vss,⟨vs,r,e,b,d,f⟩=>by subst e;obtain⟨g1,a⟩:=cN.length f;have:=d.length;refine⟨by simp [g1], ?_⟩;simp only [X8,Xc,a,this,b,Wz,Xw];omega
theorem cN.one{sz:Nat}:∀{xs:List (List T)} {vss:List (List Value)},cN w A sz xs vss->∀u∈vss.flatten,u.oneCell'=true/\u.cells= #[u]
 | [],vss,h,u,hu=>by simp only [cN] at h;subst h;simp at hu
 | cs::xs,vss,⟨vs,r,e,d,a,b⟩,u,hu=>by
  subst e;simp only [X8,WK] at hu;rcases hu with hu | hu
  .exact a.one u hu
  .exact cN.one b u hu
theorem cN.append{sz:Nat}:∀{xs d:List (List T)} {vss a:List (List Value)},cN w A sz xs vss->cN w A sz d a->cN w A sz (xs++d) (vss++a)
 | [],_,vss,_,h,b=>by simp only [cN] at h;subst h;simpa using b
 | cs::xs,d,vss,a,⟨vs,r,e,f,g,i⟩,b=>by subst e;exact⟨vs,r++a,rfl,f,g,cN.append i b⟩
theorem bq.bC{ah sz:Nat}:∀{off:Nat} {xs:List (List T)},bq w A ah sz off xs->∃vss,cN w A sz xs vss/\∀p v,vss.flatten[p]? =some v->w.cell? ⟨ah,off+p,none⟩=some v
 | _,[],_=>⟨[],rfl,by simp⟩
 | off,cs::xs,h=>by
  simp only [bq] at h;obtain⟨vs,b,d⟩:=h.2.1.bC;obtain⟨r,e,f⟩:=bq.bC h.2.2;refine⟨vs::r,⟨vs,r,rfl,h.1,b,e⟩,λp v a=> ?_⟩;have hl:=b.length;rw [h.1] at hl;rw [X8] at a;by_cases g:p < sz
  .rw [WB (by omega)] at a;exact d p v a
  .rw [WJ (by omega),hl] at a;have:=f _ v a;rw [show off+sz+ (p - sz)=off+p by omega] at this;exact this
theorem bq.mi{ah sz:Nat}:∀{off:Nat} {xs:List (List T)} {vss:List (List Value)},cN w A sz xs vss->(∀p v,vss.flatten[p]? =some v->w.cell? ⟨ah,off+p,none⟩=some v)->bq w A ah sz off xs
 | _,[],_,_,_=>by simp [bq]
 | off,cs::xs,vss,⟨vs,r,e,a,b,g⟩,f=>by
  subst e;have hl:=b.length;rw [a] at hl;simp only [bq];refine⟨a,bh.mi b (λj v d=>f j v ?_),bq.mi g (λp v i=> ?_)⟩
  .rw [X8,WB (Wm.1 d).1];exact d
  .have:=f (sz+p) v (by rw [X8,WJ (by omega),hl,show sz+p - sz=p by omega];exact i);rw [show off+sz+p=off+ (sz+p) by omega];exact this
theorem HS.yZ{i:Id}(hs:HS c w h ρ O)(d:h i=none){xs:List (List T)}{vss:List (List Value)}{sz:Nat}(t:TypeId)(cells:Array Value)(cap:Nat)(j:cN w (AA c w O) sz xs vss)
  (f:∀(p:Nat) (v:Value),vss.flatten[p]? =some v->cells[p]? =some v) (a:xs.length<=cap) (k:cap * sz<=cells.size) (hrl:i.real=true:=by rfl):
  Le w ρ O (w.alloc (.cells cells t)) (aK ρ i (some (.slice (some ⟨w.heap.size,0,none⟩) xs.length cap))) (aK O i (some w.heap.size))/\
  HS c (w.alloc (.cells cells t)) (aK h i (some (.sl false sz false xs))) (aK ρ i (some (.slice (some ⟨w.heap.size,0,none⟩) xs.length cap))) (aK O i (some w.heap.size)):=by
 have le:=Le.alloc hs hrl d (.cells cells t) (.slice (some ⟨w.heap.size,0,none⟩) xs.length cap) (some w.heap.size) (.inr rfl);refine⟨le,hs.alloc hrl d _ _ _ (.inr rfl) _ ⟨_,by rw [aF],⟨some ⟨w.heap.size,0,none⟩,cap,rfl,a,by simp,trivial, .inr ⟨w.heap.size,0,cells,t,rfl,by simp,ma _,by omega, ?_⟩⟩,by simp⟩⟩;refine bq.mi (cN.mono (λb e=>le.A b e) j) (λp v g=> ?_);rw [l6 (ma _),WZ];exact f p v g
theorem Gr{a:Act}{g:Option Gs}{e:TypeId}(hs:HS c w s.h ρ O)(C:SS w (AA c w O) ρ s.t a.tmps)(B:l0 a.tmps g){O':Id->Option Nat}(le:Le w ρ O w ρ O')(m:∀i,O' i=O i\/O' i=none):
  ∀{y:List (Nat×Operand)} {n:Nat} {q:List (List T)×aH},jl P s.h e (s.get g) n y=some q->(∀p∈q.2,O' p.1=none)->
   ∃vs:List Value,(y.map λx=>(x.1,a.eval x.2))= ((vs.zipIdx n).map λx=>(x.2,x.1))/\cN w (AA c w O') (P.cellsOf e) q.1 (vs.map λv=>v.cells.toList)/\(∀v∈vs,v.cells.size=P.cellsOf e)
 | [],n,q,b,_=>by simp only [jl,Wj] at b;subst b;exact⟨[],rfl,by simp [cN],by simp⟩
 | (k,o)::y,n,q,b,r=>by
  simp only [jl] at b;obtain⟨l,hl,b⟩:=Wk.1 b;split at b
  .rename_i j;obtain⟨rfl,d⟩:=j;obtain⟨I,z,b⟩:=Wk.1 b;simp only [Wj] at b;subst b;simp only [WK] at r;obtain⟨vs,D,E,e3⟩:=Gr hs C B le m z (λp u=>r p (.inr u));have G:=SS.get (h:=s.h) C B o;obtain⟨g1,H⟩:=Dd hs G hl le m (λp u=>r p (.inl u));have F:=g1.length;refine⟨a.eval o::vs, ?_,⟨_,_,rfl,d,g1,E⟩, ?_⟩
   .simp only [WL,List.zipIdx_cons,D]
   .intro v f;rcases WC.1 f with rfl | f
    .rw [<-WY,F,d]
    .exact e3 v f
  .simp at b
theorem Gq{e:TypeId}{ev:Operand->AV}:∀{b:List (Nat×Operand)} {n:Nat} {q:List (List T)×aH},jl P h e ev n b=some q->ig h q.2/\q.1.length=b.length
 | [],n,q,a=>by simp only [jl,Wj] at a;subst a;exact⟨(λp i=>by cases i),rfl⟩
 | (k,o)::b,n,q,a=>by
  simp only [jl] at a;obtain⟨l,hl,a⟩:=Wk.1 a;split at a
  .obtain⟨j,d,a⟩:=Wk.1 a;simp only [Wj] at a;subst a;obtain⟨f,g⟩:=Gq d;exact⟨(BI _).append f,by simp [g]⟩
  .simp at a
theorem zu{t e:TypeId}{n:Nat}(u:P.underlying t=some (.slice e))(l:cx P e=true)(d:(jv P e).isSome=true)(b: 0 < P.cellsOf e)(g:n<=1000/\P.cellsOf e<=1000)(vs:List Value)(y:∀v∈vs,v.cells.size=P.cellsOf e)(j:vs.length=n)
  (o:Array (Nat×Value)) (a:o.toList= (vs.zipIdx 0).map λx=>(x.2,x.1)):
  (Instr.buildSlice t n o).run P w= .ok (.slice (some ⟨w.heap.size,0,none⟩) n n) (w.alloc (.cells (vs.flatMap λv=>v.cells.toList).toArray e)):=by
 obtain⟨z,d⟩:=X5.1 d;obtain⟨i,zv,r,m,_⟩:=ph d;have B:n * P.cellsOf e<=1000 * 1000:=ZG g.1 g.2;have q:¬(n * P.cellsOf e > 2 ^ 24):=by
  have f:(2:Nat) ^ 24=16777216:=by decide
  rw [f];omega
 have p:=Go.Great.fill_whole b vs;unfold Instr.buildSlice;simp only [WR,run_underlying u,WD,jS l,if_neg q,Sem.run_ite];by_cases h0:n * P.cellsOf e=0
 .have k:n=0:=by rcases Nat.mul_eq_zero.1 h0 with e | e <;> omega
  subst k;have:vs= []:=WT.1 j;subst this;simp only [Nat.zero_mul,if_true,W9,WD];simp only [List.zipIdx_nil,Xj] at a;simp [a,Instr.fill,newRow,Array.range_zero']
 .simp only [if_neg h0,WR,zeroValue,typeInfo,run_program,WD,r,W9,m];rw [a,p _ y (by simp [j])];simp [newRow]
theorem JP{t e:TypeId}{b:List T}{n m:Int}{kn km:IntKind}(u:P.underlying t=some (.slice e))(v:jv P e=some b)(q:P.bytesOf e<=8192)(r:b.length=P.cellsOf e)(h0: 0<=n)(p:n<=m)(f:m<=nQ):
  ∃zv:Value,aY w A b zv.cells.toList/\(Instr.makeSlice t (.int kn n) (.int km m)).run P w= .ok (.slice (some ⟨w.heap.size,0,none⟩) n.toNat m.toNat) (w.alloc (.cells (madeCells zv.cells (m.toNat * P.cellsOf e)) e)):=by
 obtain⟨i,zv,a,l,j⟩:=ph v;have k:P.cellsOf e=i.size:=by simp [Program.cellsOf,a]
 have g:P.bytesOf e=i.bytes:=by simp [Program.bytesOf,a]
 refine⟨zv,qp j, ?_⟩;rw [k];refine run_make w t e i zv u a l kn km n m h0 p ?_ ?_
 .rw [g] at q;have:(i.bytes:Int) * m<=8192 * 4294967296:=by
   have o:(i.bytes:Int)<=8192:=by omega
   have d:m<=4294967296:=by simpa [nQ] using f
   calc (i.bytes:Int) * m<=8192 * m:=Ze o (by omega)
    _<=8192 * 4294967296:=Zh d (by omega)
  omega
 .have d:m<=4294967296:=by simpa [nQ] using f
  omega
theorem Cf{zv:Array Value}{sz:Nat}(b:zv.size=sz)(n m:Nat)(i:n<=m):∀(p:Nat) (v:Value),(List.replicate n zv.toList).flatten[p]? =some v->(madeCells zv (m * sz))[p]? =some v:=by
 intro p v a;have d:p < n * sz:=by have:=(Wm.1 a).1;simpa [b] using this
 have g: 0 < sz:=by
  rcases Nat.eq_zero_or_pos sz with e | e
  .rw [e] at d;simp at d
  .exact e
 have hm:n * sz<=m * sz:=Xu _ i;have key:∀n p,p < n * sz->(List.replicate n zv.toList).flatten[p]? =zv[p % sz]?:=by
  intro n;induction n with
  | zero=>intro p h;simp at h
  | succ n j=>
   intro p h;rw [XQ,X8];by_cases a:p < sz
   .rw [WB (by simpa [b] using a),Zs a];simp
   .rw [WJ (by simp [b];omega)];simp only [WY,b];have k:(n+1) * sz=n * sz+sz:=Xw _ _;rw [j _ (by omega)];congr 1;exact(Nat.mod_eq_sub_mod (by omega)).symm
 rw [key n p d] at a;have f:p % sz < zv.size:=by rw [b];exact Zo _ g
 simp only [madeCells,Array.getElem?_map];rw [Yc (by simp;omega)];simp only [Array.getElem_range,X4,b];rw [Yc f] at a;rw [getElem!_pos zv _ f];exact a
theorem cN.replicate{sz:Nat}{a:List T}{vs:List Value}(b:aY w A a vs)(hl:a.length=sz):∀n,cN w A sz (List.replicate n a) (List.replicate n vs)
 | 0=>rfl
 | n+1=>⟨vs,List.replicate n vs,rfl,hl,b,cN.replicate b hl n⟩
end
end Go.Aev
