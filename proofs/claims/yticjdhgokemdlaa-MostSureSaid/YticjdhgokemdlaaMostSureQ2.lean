import Derived.Test.YticjdhgokemdlaaMostSureQ1
import Derived.ChangeKeysEq
import Derived.Deep.AppendSrc
import Derived.Great.FillDense
set_option linter.all false
namespace Go.Aev
open Go Go.IntKind
section
variable {P:Program} {w:World} {A:Nat->Prop}
theorem T.fX{k:IntKind}{x:T}{n:Int}(h:x.int? k=some n):x= .int k n:=by cases x <;> simp only [T.int?,reduceCtorEq] at h;split at h <;> simp_all
theorem T.iO{x:T}{b:Bool}(h:x.bool? =some b):x= .bool b:=by cases x <;> simp_all [T.bool?]
theorem T.ko{x:T}{s:ByteArray}(h:x.bw =some s):x= .str s:=by cases x <;> simp_all [T.bw]
theorem T.yv{x:T}{cs:List T}(h:x.p7 =some cs):x= .ptr cs:=by cases x <;> simp_all [T.p7]
theorem T.pV{sz:Nat}{x:T}{p:Bool×List (List T)}(h:x.aP sz=some p):x= .ae sz p.1 p.2\/(x= .aO p.1/\p.2= []):=by
 cases x <;> simp only [T.aP,reduceCtorEq,SR] at h
 case ae a b xs=>split at h <;> simp_all;subst h;simp
 case aO b=>subst h;simp
theorem N3{w:World}{A:Nat->Prop}{y:T}{v:Value}(h:xZ y=true)(hr:ax w A y v):v= .slice none 0 0:=by
 unfold xZ at h;split at h
 .simp only [ax] at hr;rcases hr with⟨_,h⟩ | ⟨h,_⟩
  .exact h
  .cases h
 .simp only [ax] at hr;rcases hr with⟨_,_,h⟩ | ⟨h,_⟩
  .exact h
  .cases h
 .cases h
theorem AV.l8{v:AV}{x:T}(h:v.t? =some x):v= .t x:=by cases v <;> simp_all [AV.t?]
theorem pR{d R:Type}[Inhabited d]{c:Option Bool}{m:Option d}{k:d->Option R}{r:R}(h:ab c m k=some r):
  ∃a,k a=some r/\(m=some a\/(m=none/\c=some false)):=by
 unfold ab at h;cases m with
 | some a=>exact⟨a,h, .inl rfl⟩
 | none=>cases c with
  | none=>simp at h
  | some b=>cases b with
   | true=>simp at h
   | false=>exact⟨_,h, .inr ⟨rfl,rfl⟩⟩
def tg(P:Program)(R:Value->World->Prop):Result Next->Prop
 | .ok (.value x) w'=>R x w'
 | .ok .skip w'=>R undef w'
 | .ok (.enter f args) w'=>Calls P f args w' λe a=>∃x,e= .returned x/\R x a
 | _=>False
def iI(P:Program)(o:Oper)(a:Act)(w:World)(R:Value->World->Prop):Prop:=tg P R ((execOp a.eval o).run P w)
theorem iI.mono{o:Oper}{a:Act}{R b:Value->World->Prop}(h:iI P o a w R)(hr:∀x w',R x w'->b x w'):iI P o a w b:=by
 unfold iI at *
 generalize (execOp a.eval o).run P w=r at *
 cases r with
 | ok n w'=>
  cases n <;> simp only [tg] at h⊢
  case enter=>exact h.mono λe g ⟨x,d,f⟩=>⟨x,d,hr _ _ f⟩
  all_goals exact hr _ _ h
 | halt x w'=>simp [tg] at h
theorem iI.wp{o:Oper}{a:Act}{R:Value->World->Prop}{K:Act->World->Prop}{Q:Exit->Act->World->Prop}(h:iI P o a w R)(b:∀x w',R x w'->K (a.put o.dst x) w'):o.wp P a w K Q:=by
 unfold iI at h;unfold Oper.wp;generalize (execOp a.eval o).run P w=r at *
 cases r with
 | ok n w'=>
  cases n <;> simp only [tg] at h <;> simp only [Oper.upon]
  case enter=>exact h.mono λe g ⟨x,d,f⟩=>by subst d;exact b _ _ f
  all_goals first | exact b _ _ h | exact h.elim
 | halt x w'=>simp [tg] at h
theorem xX{t:TypeId}{d:TypeDesc}(h:P.underlying t=some d):∃i,P.info? t=some i/\P.cellsOf t=i.size:=by
 unfold Program.underlying at h;cases hi:P.info? t with
 | none=>simp [hi] at h
 | some i=>exact⟨i,rfl,by simp [Program.cellsOf,hi]⟩
theorem jd{t:TypeId}(h:bL P t=true)(w:World):(sizeOf t).run P w= .ok (P.cellsOf t) w:=by unfold bL at h;obtain⟨d,a⟩:=UX.1 h;obtain⟨i,hi,hs⟩:=xX a;rw [hs];simp [sizeOf,typeInfo,hi]
theorem se{t:TypeId}(h:bL P t=true)(w:World):(isAgg t).run P w= .ok (bm P t) w:=by unfold bL at h;obtain⟨d,a⟩:=UX.1 h;unfold isAgg bm;simp only [Tp,run_underlying a,Td,a];cases d <;> rfl
theorem gr(k:IntKind)(n:Int)(w:World)(A:Nat->Prop):ax w A (.int k n) (.int k n):=by simp [ax]
theorem nK(b:Bool)(w:World)(A:Nat->Prop):ax w A (.bool b) (.bool b):=by simp [ax]
theorem lX(b:ByteArray)(w:World)(A:Nat->Prop):ax w A (.str b) (.string b):=by simp [ax]
theorem Kz{R:Type}{op:BinOp}{k:IntKind}{c:Option Bool}{x y:T}{K:T->Option R}{r:R}{t:TypeId}{j l:Value}(f:c=none\/c=some true)
  (i:ax w A x j) (hy:ax w A y l) (h:qY op k c x y K=some r):
  ∃z m,K z=some r/\(∀w A,ax w A z m)/\(binOp op t j l).run P w= .ok m w:=by
 unfold qY at h;replace h:=aL h f;obtain⟨a,n,h⟩:=h;replace h:=aL h f;obtain⟨b,hb,h⟩:=h;have:=T.fX n;subst this;have:=T.fX hb;subst this;simp only [ax] at i hy;subst i;subst hy;cases op <;> simp only [reduceCtorEq] at h
 case quo=>
  replace h:=aL h f;obtain⟨_,g,h⟩:=h;have d:b≠0:=by intro e;simp [e] at g
  exact⟨_,_,h,by first | exact gr _ _ | exact nK _ | exact lX _,by simp [binOp,Op.intDiv,d]⟩
 case rem=>
  replace h:=aL h f;obtain⟨_,g,h⟩:=h;have d:b≠0:=by intro e;simp [e] at g
  exact⟨_,_,h,by first | exact gr _ _ | exact nK _ | exact lX _,by simp [binOp,Op.intDiv,d]⟩
 all_goals exact⟨_,_,h,by first | exact gr _ _ | exact nK _ | exact lX _,by simp [binOp,Op.intArith,Op.intBits,Op.intCmp]⟩
theorem Q6{R:Type}{op:BinOp}{k ky:IntKind}{c:Option Bool}{x y:T}{K:T->Option R}{r:R}{t:TypeId}{i j:Value}(d:c=none\/c=some true)
  (g:ax w A x i) (hy:ax w A y j) (h:so op k ky c x y K=some r):
  ∃z l,K z=some r/\(∀w A,ax w A z l)/\(binOp op t i j).run P w= .ok l w:=by
 unfold so at h;replace h:=aL h d;obtain⟨a,n,h⟩:=h;replace h:=aL h d;obtain⟨b,hb,h⟩:=h;have:=T.fX n;subst this;have:=T.fX hb;subst this;simp only [ax] at g hy;subst g;subst hy;replace h:=aL h d;obtain⟨_,m,h⟩:=h;have f:¬b < 0:=by intro e;simp [e] at m
 cases op <;> simp only [reduceCtorEq] at h
 all_goals exact⟨_,_,h,by first | exact gr _ _ | exact nK _ | exact lX _,by simp [binOp,Op.shift,f]⟩
theorem Rw{R:Type}{op:BinOp}{c:Option Bool}{x y:T}{K:T->Option R}{r:R}{t:TypeId}{i j:Value}(d:c=none\/c=some true)
  (g:ax w A x i) (hy:ax w A y j) (h:sA op c x y K=some r):
  ∃z k,K z=some r/\(∀w A,ax w A z k)/\(binOp op t i j).run P w= .ok k w:=by
 unfold sA at h;replace h:=aL h d;obtain⟨a,m,h⟩:=h;replace h:=aL h d;obtain⟨b,hb,h⟩:=h;have:=T.ko m;subst this;have:=T.ko hb;subst this;simp only [ax] at g hy;subst g;subst hy;cases op <;> simp only [reduceCtorEq] at h
 case add=>
  replace h:=aL h d;obtain⟨_,l,h⟩:=h;have n:a.size+b.size<=4294967296:=by
   by_cases e:a.size+b.size<=4294967296
   .exact e
   .simp [e] at l
  have f:¬(((a.size+b.size:Nat):Int) > i64.max):=by
   have:i64.max=9223372036854775807:=by decide
   rw [this];omega
  exact⟨_,_,h,by first | exact gr _ _ | exact nK _ | exact lX _,by simp only [binOp,Op.stringOp,if_neg f];rfl⟩
 all_goals exact⟨_,_,h,by first | exact gr _ _ | exact nK _ | exact lX _,by simp [binOp,Op.stringOp]⟩
theorem KH{R:Type}{op:BinOp}{t ty:TypeId}{c:Option Bool}{x y:T}{K:T->Option R}{r:R}{d e:Value}(a:c=none\/c=some true)
  (b:ax w A x d) (hy:ax w A y e) (h:qZ P op t ty c x y K=some r):
  (op≠ .eql/\op≠ .neq)/\∃z f,K z=some r/\(∀w A,ax w A z f)/\(binOp op t d e).run P w= .ok f w:=by
 unfold qZ at h;cases op <;> simp only [reduceCtorEq] at h <;> refine⟨⟨by simp,by simp⟩, ?_⟩ <;> split at h <;> first | exact Kz a b hy h | exact Q6 a b hy h | exact Rw a b hy h | simp at h
theorem Sw{R:Type}{op:UnOp}{t:TypeId}{c:Option Bool}{x:T}{K:T->Option R}{r:R}{f:Value}(e:c=none\/c=some true)
  (b:ax w A x f) (h:sI P op t c x K=some r):
  ∃z g,K z=some r/\(∀w A,ax w A z g)/\(Op.unary op f).run P w= .ok g w:=by
 unfold sI at h;split at h
 .replace h:=aL h e;obtain⟨a,d,h⟩:=h;have:=T.fX d;subst this;simp only [ax] at b;subst b;exact⟨_,_,h,by first | exact gr _ _ | exact nK _ | exact lX _,by simp [Op.unary,Op.intArith]⟩
 .replace h:=aL h e;obtain⟨a,d,h⟩:=h;have:=T.fX d;subst this;simp only [ax] at b;subst b;exact⟨_,_,h,by first | exact gr _ _ | exact nK _ | exact lX _,by simp [Op.unary,Op.intBits]⟩
 .replace h:=aL h e;obtain⟨a,d,h⟩:=h;have:=T.iO d;subst this;simp only [ax] at b;subst b;exact⟨_,_,h,by first | exact gr _ _ | exact nK _ | exact lX _,by simp [Op.unary]⟩
 .simp at h
theorem Nb{R:Type}{d:Nat}{t:TypeId}{c:Option Bool}{x y:T}{K:Bool->Option R}{r:R}{j l:Value}(e:c=none\/c=some true)
  (f:ax w A x j) (hy:ax w A y l) (h:lN P c t x y K=some r):∃b,K b=some r/\(Op.equalIn (d+1) t j l).run P w= .ok b w:=by
 unfold lN at h;split at h
 .rename_i k i;replace h:=aL h e;obtain⟨a,g,h⟩:=h;replace h:=aL h e;obtain⟨b,hb,h⟩:=h;have:=T.fX g;subst this;have:=T.fX hb;subst this;simp only [ax] at f hy;subst f;subst hy;exact⟨_,h,by simp [Op.equalIn,run_underlying i]⟩
 .rename_i i;replace h:=aL h e;obtain⟨a,g,h⟩:=h;replace h:=aL h e;obtain⟨b,hb,h⟩:=h;have:=T.iO g;subst this;have:=T.iO hb;subst this;simp only [ax] at f hy;subst f;subst hy;exact⟨_,h,by simp [Op.equalIn,run_underlying i]⟩
 .rename_i i;replace h:=aL h e;obtain⟨a,g,h⟩:=h;replace h:=aL h e;obtain⟨b,hb,h⟩:=h;have:=T.ko g;subst this;have:=T.ko hb;subst this;simp only [ax] at f hy;subst f;subst hy;exact⟨_,h,by simp [Op.equalIn,run_underlying i]⟩
 .simp at h
theorem A3{R:Type}{c:Option Bool}(d:List TypeId):∀(ts:List TypeId) (xs a:List T) (K:Bool->Option R),
  eA P c (ts++d) xs a K=eA P c ts (xs.take ts.length) (a.take ts.length) (λq=>eA P c d (xs.drop ts.length) (a.drop ts.length) λe=>K (q && e))
 | [],xs,a,K=>by simp [eA]
 | t::ts,[],a,K=>by simp [eA]
 | t::ts,x::xs,[],K=>by simp [eA]
 | t::ts,x::xs,y::a,K=>by simp only [S7,Tr,Ws,List.drop_succ_cons,eA];congr 1;funext b;rw [A3 d ts xs a];simp only [Bool.and_assoc]
theorem aR.take{cs:List T}{vs:List Value}(h:aR w A cs vs):∀n,aR w A (cs.take n) (vs.take n):=by
 intro n;induction n generalizing cs vs with
 | zero=>simp [aR]
 | succ n b=>
  cases cs with
  | nil=>simp only [aR] at h;subst h;simp [aR]
  | cons c cs=>obtain⟨v,r,rfl,h1,a⟩:=h;exact⟨v,r.take n,rfl,h1,b a⟩
theorem aR.drop{cs:List T}{vs:List Value}(h:aR w A cs vs):∀n,aR w A (cs.drop n) (vs.drop n):=by
 intro n;induction n generalizing cs vs with
 | zero=>simpa using h
 | succ n b=>
  cases cs with
  | nil=>simp only [aR] at h;subst h;simp [aR]
  | cons c cs=>obtain⟨v,r,rfl,h1,a⟩:=h;exact b a
end
open Go
section
variable {P:Program} {w:World} {A:Nat->Prop}
def kr(P:Program)(t:TypeId)(vs:List Value):Value:=if bm P t=true then .agg vs.toArray else vs.headD undef
theorem uK{t:TypeId}(b:bL P t=true)(xs:Array Value)(off:Nat)(h1:bm P t=false->P.cellsOf t=1)(d:off+P.cellsOf t<=xs.size)(w:World):
  (part t xs off).run P w= .ok (kr P t ((xs.toList.drop off).take (P.cellsOf t))) w:=by
 unfold part kr;simp only [Tp,se b,Td];cases hb:bm P t
 .simp only [Tv,if_false];rw [h1 hb] at d⊢;have a:off < xs.size:=by omega
  have:xs[off]? =some xs[off]:=Vg a;rw [this];have e:off < xs.toList.length:=by simpa using a
  rw [UB e];simp
 .simp only [if_true,Tp,jd b,Td,TD];congr 2;apply Vj;simp [Wi,VM]
theorem aR.part{xs:List T}{vs:List Value}(h:aR w A xs vs)(off n:Nat):aR w A ((xs.drop off).take n) ((vs.drop off).take n):=(h.drop off).take n
theorem rB{R:Type}{c:Option Bool}(a:c=none\/c=some true):∀{ts:List TypeId} {xs d:List T} {K:Bool->Option R} {r:R},eA P c ts xs d K=some r->xs.length=ts.length/\d.length=ts.length
 | [],[],[],_,_,_=>⟨rfl,rfl⟩
 | t::ts,x::xs,y::d,K,r,h=>by
  simp only [eA] at h;have:∃b,eA P c ts xs d (λr=>K (b && r))=some r:=by
   unfold lN at h;split at h
   .replace h:=aL h a;obtain⟨_,_,h⟩:=h;replace h:=aL h a;obtain⟨_,_,h⟩:=h;exact⟨_,h⟩
   .replace h:=aL h a;obtain⟨_,_,h⟩:=h;replace h:=aL h a;obtain⟨_,_,h⟩:=h;exact⟨_,h⟩
   .replace h:=aL h a;obtain⟨_,_,h⟩:=h;replace h:=aL h a;obtain⟨_,_,h⟩:=h;exact⟨_,h⟩
   .simp at h
  obtain⟨b,hb⟩:=this;obtain⟨h1,e⟩:=rB a hb;simp [h1,e]
 | [],[],_::_,_,_,h=>by simp [eA] at h
 | [],_::_,_,_,_,h=>by simp [eA] at h
 | _::_,[],_,_,_,h=>by simp [eA] at h
 | _::_,_::_,[],_,_,h=>by simp [eA] at h
theorem pQ{n:Nat}{t:TypeId}{ts:List TypeId}(h:fp P n t=some ts):bL P t=true:=by
 cases n with
 | zero=>simp [fp] at h
 | succ n=>
  simp only [fp] at h;unfold bL;cases a:P.underlying t with
  | none=>simp [a] at h
  | some d=>rfl
theorem Gg{n:Nat}{t:TypeId}{ts:List TypeId}(h:fp P n t=some ts)(hb:bm P t=false):ts= [t]:=by
 cases n with
 | zero=>simp [fp] at h
 | succ n=>
  simp only [fp] at h;unfold bm at hb;cases a:P.underlying t with
  | none=>simp [a] at h
  | some d=>cases d <;> simp_all
def zi(P:Program)(w:World)(A:Nat->Prop)(n:Nat):Prop:= ∀(t:TypeId) (ts:List TypeId),fp P n t=some ts->∀(d:Nat),n<=d->
 ∀(R:Type) (c:Option Bool),c=none\/c=some true->∀(xs f:List T) (a e:List Value) (K:Bool->Option R) (r:R),aR w A xs a->aR w A f e->eA P c ts xs f K=some r->
  ∃b,K b=some r/\(Op.equalIn d t (kr P t a) (kr P t e)).run P w= .ok b w
theorem F4{n d:Nat}(z:zi P w A n)(y:n<=d){X Y:Array Value}{R:Type}{c:Option Bool}(i:c=none\/c=some true):
  ∀(e:List Field) (off:Nat) (ts:List TypeId),rJ P (fp P n) e off=some ts->∀(xs m:List T) (K:Bool->Option R) (r:R),aR w A xs (X.toList.drop off)->aR w A m (Y.toList.drop off)->
   eA P c ts xs m K=some r->∃b,K b=some r/\(Op.eqFields d X Y e).run P w= .ok b w
 | [],off,ts,h,xs,m,K,r,k,hy,hr=>by simp only [rJ,SR] at h;subst h;obtain⟨h1,E⟩:=rB i hr;have:=To.1 h1;subst this;have:=To.1 E;subst this;exact⟨true,by simpa [eA] using hr,by simp [Op.eqFields]⟩
 | f::e,off,ts,h,xs,m,K,r,k,hy,hr=>by
  simp only [rJ] at h;by_cases j:f.offset=off/\f.name≠ "_"
  .rw [if_pos j] at h;cases a:fp P n f.type with
   | none=>simp [a] at h
   | some l=>
    simp only [a,S9] at h;by_cases g:P.cellsOf f.type=l.length/\0 < l.length
    .rw [if_pos g] at h;obtain⟨hs,F⟩:=g;cases t:rJ P (fp P n) e (off+l.length) with
     | none=>simp [t] at h
     | some q=>
      simp only [t,S9,SR] at h;subst h;obtain⟨G,ly⟩:=rB i hr;simp only [Uh] at G ly;rw [A3] at hr;obtain⟨u,v,C⟩:=z f.type l a d y R c i _ _ _ _ _ _ (k.take l.length) (hy.take l.length) hr;have o:=k.drop l.length;have p:=hy.drop l.length;rw [WW] at o p;obtain⟨B,x,D⟩:=F4 z y i e (off+l.length) q t _ _ _ _ o p v;have sx:=k.length;have H:=hy.length;simp only [UK,Tu] at sx H;have one:bm P f.type=false->P.cellsOf f.type=1:=λhb=>by rw [hs,Gg a hb];rfl
      refine⟨u && B,x, ?_⟩;simp only [Op.eqFields,ne_eq,j.2,not_false_eq_true,if_true,Tp];rw [j.1,uK (pQ a) X off one (by rw [hs];omega) w];simp only [Td];rw [uK (pQ a) Y off one (by rw [hs];omega) w];simp only [Td,hs,C];cases u
      .simp
      .simp [D]
    .rw [if_neg g] at h;simp at h
  .rw [if_neg j] at h;simp at h
theorem F5{n d:Nat}(C:zi P w A n)(B:n<=d){X Y:Array Value}{R:Type}{c:Option Bool}(i:c=none\/c=some true){e:TypeId}{l:List TypeId}(a:fp P n e=some l)(hs:P.cellsOf e=l.length):
  ∀(m k:Nat) (xs o:List T) (K:Bool->Option R) (r:R),aR w A xs (X.toList.drop (k * P.cellsOf e))->aR w A o (Y.toList.drop (k * P.cellsOf e))->
   eA P c (List.replicate m l).flatten xs o K=some r->∃b,K b=some r/\(Op.eqItems d e (P.cellsOf e) X Y (List.range' k m)).run P w= .ok b w
 | 0,k,xs,o,K,r,j,hy,hr=>by obtain⟨h1,E⟩:=rB i hr;have:=To.1 h1;subst this;have:=To.1 E;subst this;exact⟨true,by simpa [eA] using hr,by simp [Op.eqItems]⟩
 | m+1,k,xs,o,K,r,j,hy,hr=>by
  simp only [TX,U6] at hr;obtain⟨G,ly⟩:=rB i hr;simp only [Uh] at G ly;rw [A3] at hr;obtain⟨g,z,f⟩:=C e l a d B R c i _ _ _ _ _ _ (j.take l.length) (hy.take l.length) hr;have q:=j.drop l.length;have t:=hy.drop l.length;have F:k * P.cellsOf e+l.length= (k+1) * P.cellsOf e:=by rw [hs,T2]
  rw [WW,F] at q t;obtain⟨x,p,u⟩:=F5 C B i a hs m (k+1) _ _ _ _ q t z;have sx:=j.length;have D:=hy.length;simp only [UK,Tu] at sx D;have one:bm P e=false->P.cellsOf e=1:=λhb=>by rw [hs,Gg a hb];rfl
  by_cases y:l.length=0
  ·
   refine⟨g && x,p, ?_⟩;have v:bm P e=true:=by
    cases hb:bm P e
    .have:=one hb;omega
    .rfl
   have H:∀(Z:Array Value) (w:World),(part e Z (k * P.cellsOf e)).run P w= .ok (kr P e []) w:=by intro Z w;unfold part kr;simp only [Tp,se (pQ a),Td,v,if_true,jd (pQ a),TD,hs,y];simp
   simp only [VQ,Op.eqItems,Tp,H,Td];rw [y] at f;simp only [Vs] at f;rw [f];cases g
   .simp
   .simp [u]
  .refine⟨g && x,p, ?_⟩;simp only [VQ,Op.eqItems,Tp];rw [uK (pQ a) X _ one (by rw [hs] at sx⊢;omega) w];simp only [Td];rw [uK (pQ a) Y _ one (by rw [hs] at D⊢;omega) w];simp only [Td,hs];rw [hs] at f u;simp only [f,Td];cases g
   .simp
   .simp [u]
theorem A5:∀n,zi P w A n
 | 0=>by intro t ts h;simp [fp] at h
 | n+1=>by
  intro t ts h d U R c j xs o Q S K r B hy hr;obtain⟨d,rfl⟩:∃L,d=L+1:=⟨d - 1,by omega⟩;have J:=A5 n;simp only [fp] at h;have a:bm P t=false->ts= [t]->∃b,K b=some r/\(Op.equalIn (d+1) t (kr P t Q) (kr P t S)).run P w= .ok b w:=by
   intro hb I;subst I;obtain⟨C,ly⟩:=rB j hr;cases xs with
   | nil=>simp at C
   | cons x xs=>cases o with
    | nil=>simp at ly
    | cons y o=>simp only [Tr,T6,TC,Nat.add_eq_right,To] at C ly;subst C;subst ly;obtain⟨v,q,rfl,h1,W⟩:=B;obtain⟨u,p,rfl,N,V⟩:=hy;simp only [eA,Wm] at hr;simpa [kr,hb] using Nb (d:=d) j h1 N hr
  cases f:P.underlying t with
  | none=>simp [f] at h
  | some M=>
   cases M <;> simp only [f,reduceCtorEq,SR] at h
   case int=>exact a (by simp [bm,f]) h.symm
   case bool=>exact a (by simp [bm,f]) h.symm
   case string=>exact a (by simp [bm,f]) h.symm
   case struct D=>
    split at h
    .simp at h
    .rename_i H;have g:bm P t=true:=by simp [bm,f]
     have F:P.underlying t=some (.struct (P.fieldsOf t)):=by simp [Program.fieldsOf,f]
     have G:P.fieldsOf t=D:=by simp [Program.fieldsOf,f]
     simp only [kr,g,if_true];rw [run_equalIn_struct w d t _ _ F (by simpa using H),G];exact F4 J (by omega) j D.toList 0 ts h xs o K r (by simpa using B) (by simpa using hy) hr
   case array m e=>
    cases k:fp P n e with
    | none=>simp [k] at h
    | some l=>
     simp only [k,S9] at h;split at h
     .rename_i hs;simp only [SR] at h;subst h;have g:bm P t=true:=by simp [bm,f]
      have z:=pQ k;unfold bL at z;obtain⟨T,E⟩:=UX.1 z;obtain⟨i,hi,_⟩:=xX E;simp only [kr,g,if_true];rw [run_equalIn_array w d _ _ f hi,Wj];exact F5 J (by omega) j k hs m 0 xs o K r (by simpa using B) (by simpa using hy) hr
     .simp at h
theorem F0{R:Type}{ρ:Id->Option Value}{t:TypeId}{c:Option Bool}{x y:AV}{K:Bool->Option R}{r:R}{q u:Value}(i:c=none\/c=some true)
  (f:al w A ρ x q) (hy:al w A ρ y u) (h:pM P c t x y K=some r) (v z:Operand):
  ∃b,K b=some r/\((eqGuard .eql t v z q u).run P w= .ok () w/\(binOp .eql t q u).run P w= .ok (.bool b) w)/\((eqGuard .neq t v z q u).run P w= .ok () w/\(binOp .neq t q u).run P w= .ok (.bool (!b)) w):=by
 unfold pM at h;split at h
 .rename_i x y;simp only [al] at f hy;cases n:Bt P t
  .simp only [n,cond_false] at h;have d:=h;unfold lN at d;split at d
   .rename_i k p;replace d:=aL d i;obtain⟨a,m,d⟩:=d;replace d:=aL d i;obtain⟨b,hb,d⟩:=d;have:=T.fX m;subst this;have:=T.fX hb;subst this;simp only [ax] at f hy;subst f;subst hy;exact⟨_,d,⟨by simp [eqGuard],by simp [binOp,Op.intCmp]⟩,⟨by simp [eqGuard],by simp [binOp,Op.intCmp,bne]⟩⟩
   .rename_i p;replace d:=aL d i;obtain⟨a,m,d⟩:=d;replace d:=aL d i;obtain⟨b,hb,d⟩:=d;have:=T.iO m;subst this;have:=T.iO hb;subst this;simp only [ax] at f hy;subst f;subst hy;exact⟨_,d,⟨by simp [eqGuard],run_eql_bool w t a b p⟩,⟨by simp [eqGuard],run_neq_bool w t a b p⟩⟩
   .rename_i p;simp [Bt,p] at n
   .simp at d
  .simp only [n,cond_true] at h;replace h:=aL h i;obtain⟨a,m,h⟩:=h;replace h:=aL h i;obtain⟨b,hb,h⟩:=h;have:=T.ko m;subst this;have:=T.ko hb;subst this;simp only [ax] at f hy;subst f;subst hy;exact⟨_,h,⟨by simp [eqGuard],by simp [binOp,Op.stringOp]⟩,⟨by simp [eqGuard],by simp [binOp,Op.stringOp]⟩⟩
 .rename_i xs H;cases j:(P.eqGuardType P.depth t || !bm P t)
  .simp only [j,cond_false] at h;simp only [WM,Bool.not_eq_false'] at j;obtain⟨j,C⟩:=j;cases g:eS xs with
   | none=>simp [g] at h
   | some D=>
    cases l:eS H with
    | none=>simp [g,l] at h
    | some E=>
     cases o:fp P 8 t with
     | none=>simp [g,l,o] at h
     | some ts=>simp only [g,l,o,S9] at h;simp only [al] at f hy;obtain⟨F,rfl,f,_⟩:=f;obtain⟨G,rfl,hy,_⟩:=hy;have B:bm P t=true:=C;obtain⟨b,hb,e⟩:=A5 8 t ts o 10000 (by omega) R c i D E F G K r (aR.lT g f) (aR.lT l hy) h;simp only [kr,B,if_true] at e;exact⟨b,hb,⟨run_eqGuard_agg w .eql t v z _ _ j,by rw [run_eql_struct,e];rfl⟩,⟨run_eqGuard_agg w .neq t v z _ _ j,by rw [run_neq_struct,e];rfl⟩⟩
  .simp [j] at h
 .simp at h
end
open Go
section
variable {P:Program} {w w':World} {A A':Nat->Prop} {c:Ctx} {ρ:Id->Option Value} {O:Id->Option Nat} {s:St} {cc:Option Bool}
theorem gM(b o j:Nat):(⟨b,o,none⟩:Addr).add j= ⟨b,o+j,none⟩:=by
 unfold Addr.add;split
 .rename_i h;subst h;rfl
 .rfl
theorem aV.bc{ah:Nat}:∀{off:Nat} {cs:List T},aV w A ah off cs->∃vs,aR w A cs vs/\∀j v,vs[j]? =some v->w.cell? ⟨ah,off+j,none⟩=some v
 | _,[],_=>⟨[],rfl,by simp⟩
 | off,x::cs,h=>by
  simp only [aV] at h;obtain⟨⟨v,hv,hr⟩,b⟩:=h;obtain⟨vs,d,f⟩:=aV.bc b;refine⟨v::vs,⟨v,vs,rfl,hr,d⟩, ?_⟩;intro j u a;cases j with
  | zero=>simp at a;subst a;exact hv
  | succ j=>
   have:=f j u (by simpa using a);have e:off+1+j=off+ (j+1):=by omega
   rw [e] at this;exact this
theorem aR.one:∀{cs:List T} {vs:List Value},aR w A cs vs->∀u∈vs,u.oneCell'=true/\u.cells= #[u]
 | [],vs,h,u,hu=>by simp only [aR] at h;subst h;cases hu
 | x::cs,vs,⟨v,r,e,h1,a⟩,u,hu=>by
  subst e;rcases Tg.1 hu with rfl | hu
  .exact h1.pZ
  .exact aR.one a u hu
theorem yW{R:Type}(b:cc=none\/cc=some true):∀{n:Nat} {cs:List T} {K:List T->Option R} {r:R},pe cc n cs K=some r->∃l,l=cs.take n/\l.length=n/\K l=some r
 | 0,cs,K,r,h=>⟨[],by simp,rfl,h⟩
 | n+1,cs,K,r,h=>by
  simp only [pe] at h;replace h:=aL h b;obtain⟨x,a,h⟩:=h;obtain⟨l,h1,d,e⟩:=yW b h;cases cs with
  | nil=>simp at a
  | cons y cs=>simp only [Ut,SR] at a;subst a;exact⟨y::l,by simp [h1],by simp [d],e⟩
theorem CW:∀{n:Nat} {cs l:List AV},nV n cs=some l->l=cs.take n/\l.length=n
 | 0,cs,l,h=>by simp only [nV,SR] at h;subst h;simp
 | n+1,[],l,h=>by simp [nV] at h
 | n+1,x::cs,l,h=>by
  simp only [nV] at h;cases a:nV n cs with
  | none=>simp [a] at h
  | some q=>simp only [a,S9,SR] at h;subst h;obtain⟨h1,b⟩:=CW a;exact⟨by simp [h1],by simp [b]⟩
theorem CD{t:TypeId}(a:bL P t=true)(hb:bm P t=true)(b off:Nat)(vs:List Value)(e:vs.length=P.cellsOf t)(h:∀j v,vs[j]? =some v->w.cell? ⟨b,off+j,none⟩=some v):
  (loadVar t ⟨b,off,none⟩).run P w= .ok (.agg vs.toArray) w:=by
 unfold loadVar;simp only [Tp,se a,Td,hb,if_true,jd a,<-e];rw [run_loadCells_list w ⟨b,off,none⟩ vs (λj v d=>by rw [gM];exact h j v d)];rfl
theorem yI{t:TypeId}(a:bL P t=true)(hb:bm P t=false)(b off:Nat)(v:Value)(h:w.cell? ⟨b,off,none⟩=some v):
  (loadVar t ⟨b,off,none⟩).run P w= .ok v w:=by
 unfold loadVar;simp only [Tp,se a,Td,hb,Tv,if_false];rw [run_load,h]
theorem pg{R:Type}{k:Ck}{x:T}{v:Value}{K:T->Option R}{r:R}(d:cc=none\/cc=some true)(hr:ax w A x v)(h:eZ k cc x K=some r):
  ∃y,K y=some r/\ax w A y v:=by
 unfold eZ at h;cases k with
 | i k=>simp only at h;replace h:=aL h d;obtain⟨n,a,h⟩:=h;rw [T.fX a] at hr;exact⟨_,h,hr⟩
 | b=>simp only at h;replace h:=aL h d;obtain⟨n,a,h⟩:=h;rw [T.iO a] at hr;exact⟨_,h,hr⟩
 | s=>simp only at h;replace h:=aL h d;obtain⟨n,a,h⟩:=h;rw [T.ko a] at hr;exact⟨_,h,hr⟩
 | l sz=>
  simp only at h;replace h:=aL h d;obtain⟨p,g,h⟩:=h;refine⟨_,h, ?_⟩;rcases T.pV g with rfl | ⟨rfl,f⟩
  .exact hr
  .rw [f];simp only [ax] at hr⊢;rcases hr with⟨e,rfl⟩ | ⟨e,ah,off,j,rfl⟩
   .exact .inl ⟨e,trivial,rfl⟩
   .exact .inr ⟨e,ah,off,j,0,rfl,by simp, .inl trivial,trivial⟩
 | x=>exact⟨_,h,hr⟩
theorem uW{R:Type}(b:cc=none\/cc=some true):∀{ks:List Ck} {xs:List T} {vs:List Value} {K:List T->Option R} {r:R},aR w A xs vs->eP cc ks xs K=some r->
  ∃a,K a=some r/\aR w A a vs
 | [],xs,vs,K,r,hr,h=>⟨_,h,hr⟩
 | _::_,[],vs,K,r,hr,h=>⟨_,h,hr⟩
 | k::ks,x::xs,vs,K,r,hr,h=>by obtain⟨v,q,rfl,h1,f⟩:=hr;simp only [eP] at h;obtain⟨y,h,d⟩:=pg b h1 h;obtain⟨a,h,e⟩:=uW b f h;exact⟨_,h,⟨v,q,rfl,d,e⟩⟩
theorem RD{R:Type}{k:Ck}{x:T}{K:T->Option R}{r:R}(a:cc=none\/cc=some true)(h:eZ k cc x K=some r):
  ∃y,K y=some r/\∀(w:World) (A:Nat->Prop) (v:Value),ax w A x v->ax w A y v:=by
 have e:eZ k cc x K= (eZ k cc x some).bind K:=by rw [nW];rfl
 rw [e] at h;obtain⟨y,hy,h⟩:=SU.1 h;refine⟨y,h,λw A v hr=> ?_⟩;obtain⟨z,hz,hr⟩:=pg a hr hy;simp only [SR] at hz;subst hz;exact hr
theorem RE{R:Type}{ks:List Ck}{xs:List T}{K:List T->Option R}{r:R}(a:cc=none\/cc=some true)(h:eP cc ks xs K=some r):
  ∃y,K y=some r/\∀(w:World) (A:Nat->Prop) (vs:List Value),aR w A xs vs->aR w A y vs:=by
 have e:eP cc ks xs K= (eP cc ks xs some).bind K:=by rw [sE];rfl
 rw [e] at h;obtain⟨y,hy,h⟩:=SU.1 h;refine⟨y,h,λw A v hr=> ?_⟩;obtain⟨z,hz,hr⟩:=uW a hr hy;simp only [SR] at hz;subst hz;exact hr
theorem RG{R:Type}{t:TypeId}{v:AV}{K:AV->Option R}{r:R}(a:cc=none\/cc=some true)(h:mQ P cc t v K=some r):
  ∃y,K y=some r/\∀(w:World) (A:Nat->Prop) (ρ:Id->Option Value) (u:Value),al w A ρ v u->al w A ρ y u:=by
 unfold mQ at h;split at h
 .obtain⟨y,h,g⟩:=RD a h;exact⟨_,h,λw A ρ u hr=>by simp only [al] at hr⊢;exact g w A u hr⟩
 .rename_i vs;split at h
  .rename_i l f;obtain⟨y,h,g⟩:=RE a h;refine⟨_,h,λw A ρ u hr=> ?_⟩;simp only [al] at hr⊢;obtain⟨b,e,h1,d⟩:=hr;exact⟨b,e,ay.lU (g w A b (aR.lT f h1)),d⟩
  .exact⟨_,h,λw A ρ u hr=>hr⟩
 .exact⟨_,h,λw A ρ u hr=>hr⟩
theorem y5{R:Type}(a:cc=none\/cc=some true):∀{ts:List TypeId} {vs:List AV} {K:List AV->Option R} {r:R},jk P cc ts vs K=some r->
  ∃y,K y=some r/\∀(w:World) (A:Nat->Prop) (ρ:Id->Option Value) (us:List Value),ay w A ρ vs us->ay w A ρ y us
 | [],vs,K,r,h=>⟨_,h,λw A ρ u hr=>hr⟩
 | _::_,[],K,r,h=>⟨_,h,λw A ρ u hr=>hr⟩
 | t::ts,v::vs,K,r,h=>by simp only [jk] at h;obtain⟨y,h,b⟩:=RG a h;obtain⟨g,h,d⟩:=y5 a h;refine⟨_,h,λw A ρ us hr=> ?_⟩;simp only [ay] at hr⊢;obtain⟨u,q,e,h1,f⟩:=hr;exact⟨u,q,e,b w A ρ u h1,d w A ρ q f⟩
theorem yc{R:Type}{t:TypeId}(i:bL P t=true){b off:Nat}{cs:List T}{K:AV->Option R}{r:R}(d:cc=none\/cc=some true)(hr:aV w A b off cs)(h:kP P t cc cs K=some r):
  ∃av v,K av=some r/\(loadVar t ⟨b,off,none⟩).run P w= .ok v w/\al w A ρ av v:=by
 obtain⟨vs,h1,g⟩:=hr.bc;unfold kP at h;cases hb:bm P t
 .simp only [hb,cond_false] at h;replace h:=aL h d;obtain⟨x,f,h⟩:=h;cases cs with
  | nil=>simp at f
  | cons y cs=>simp only [Ut,SR] at f;subst f;obtain⟨v,q,rfl,a,_⟩:=h1;obtain⟨z,h,a⟩:=pg d a h;exact⟨_,v,h,yI i hb b off v (by simpa using g 0 v rfl),by simpa [al] using a⟩
 .simp only [hb,cond_true] at h;obtain⟨l,n,o,h⟩:=yW d h;have a:=h1.take (P.cellsOf t);rw [<-n] at a;have k:=a.length;obtain⟨p,h,m⟩:=uW d a h;refine⟨_,_,h,CD i hb b off _ (by rw [k,o]) (λj v e=>g j v ?_), ?_⟩
  .rw [Vy] at e;split at e
   .exact e
   .cases e
  .simp only [al];exact⟨_,rfl,ay.lU m,a.one⟩
theorem Oo{R:Type}{t:TypeId}(g:bL P t=true){b off:Nat}{cs:List AV}{vs:List Value}{K:AV->Option R}{r:R}(hr:ay w A ρ cs vs)(h1:∀u∈vs,u.oneCell'=true/\u.cells= #[u])
  (f:∀j v,vs[j]? =some v->w.cell? ⟨b,off+j,none⟩=some v) (h:nA P t cs K=some r):
  ∃av v,K av=some r/\(loadVar t ⟨b,off,none⟩).run P w= .ok v w/\al w A ρ av v:=by
 unfold nA at h;cases hb:bm P t
 .simp only [hb,cond_false] at h;cases cs with
  | nil=>simp at h
  | cons y cs=>simp only [Ut,S9] at h;simp only [ay] at hr;obtain⟨v,q,rfl,a,_⟩:=hr;exact⟨_,v,h,yI g hb b off v (by simpa using f 0 v rfl),a⟩
 .simp only [hb,cond_true] at h;cases e:nV (P.cellsOf t) cs with
  | none=>simp [e] at h
  | some l=>
   simp only [e,S9] at h;obtain⟨k,m⟩:=CW e;have a:=hr.take (P.cellsOf t);rw [<-k] at a;have i:=a.length;refine⟨_,_,h,CD g hb b off _ (by rw [i,m]) (λj v d=>f j v ?_), ?_⟩
   .rw [Vy] at d;split at d
    .exact d
    .cases d
   .simp only [al];exact⟨_,rfl,a,λu n=>h1 u (Uy n)⟩
theorem Aa{i:Id}{cs:List AV}(hs:HS c w s.h ρ O)(hi:s.h i=some (.box cs)):∃b arr t,ρ i=some (.pointer (some ⟨b,0,none⟩))/\O i=some b/\w.heap[b]? =some (.cells arr t (0,0))/\
  ay w (AA c w O) ρ cs arr.toList/\(∀u∈arr.toList,u.oneCell'=true/\u.cells= #[u])/\∀j v,arr.toList[j]? =some v->w.cell? ⟨b,j,none⟩=some v:=by
 obtain⟨b,arr,t,h1,d,a,e,f⟩:=hs.ah i _ hi;refine⟨b,arr,t,h1,d,a,e,f,λj v g=> ?_⟩;simp only [World.cell?,a];simpa using g
theorem qo{i:Id}{a b:Bool}{sz:Nat}{l:List (List T)}(hs:HS c w s.h ρ O)(hi:s.h i=some (.sl a sz b l)):∃v,ρ i=some v/\cK w (AA c w O) sz b l v (λah=>if a=true then AA c w O ah else O i=some ah):=by obtain⟨v,h1,d,_⟩:=hs.ah i _ hi;exact⟨v,h1,d⟩
theorem bZ.get{i:Id}{ah sz az rsz:Nat}:∀{es:List Row} {base k:Nat} {e:Row},bZ w A ρ O i ah sz az rsz base es->es[k]? =some e->iJ w A ρ O i ah sz az rsz (base+k * sz) e
 | [],_,_,_,_,h=>by simp at h
 | x::es,base,0,e,hr,h=>by simp only [U1,SR] at h;subst h;simpa using hr.1
 | x::es,base,k+1,e,hr,h=>by have:=bZ.get hr.2 (k:=k) (by simpa using h);rw [show base+ (k+1) * sz=base+sz+k * sz by rw [T2];omega];exact this
theorem bZ.own{i:Id}{ah sz az rsz n:Nat}{p:Bool×List (List T)}:∀{es:List Row} {base:Nat},bZ w A ρ O i ah sz az rsz base es->bt n es=some p->∃v,ρ (.g i n)=some v/\cK w A rsz p.1 p.2 v (λb=>O (.g i n)=some b)
 | [],_,_,h=>by simp [bt] at h
 | e::es,base,hr,h=>by
  unfold bt at h;split at h
  .rename_i f;obtain⟨_,_,_,v,_,d,a⟩:=hr.1;rw [h] at a;rw [f] at d a;exact⟨v,d,a⟩
  .exact bZ.own hr.2 h
theorem yH{i:Id}{b:Bool}{sz az rsz nx n:Nat}{es:List Row}{p:Bool×List (List T)}(hs:HS c w s.h ρ O)(hi:s.h i=some (.rows b sz az rsz nx es))(e:bt n es=some p):
  ∃v,ρ (.g i n)=some v/\cK w (AA c w O) rsz p.1 p.2 v (λb=>O (.g i n)=some b):=by
 obtain⟨a,cap,h1,j,k,l,d⟩:=hs.ah i _ hi;rcases d with d | ⟨ah,off,arr,t,q1,m,o,q,f⟩
 .have:es= []:=To.1 (by omega);subst this;simp [bt] at e
 .exact f.own e
theorem Cz{R:Type}{i:Id}{n:Nat}{K:Nat->Bool->List (List T)->Option R}{r:R}(hs:HS c w s.h ρ O)(d:cc=none\/cc=some true)(h:lZ s.h cc i n K=some r):
  ∃rsz b xs v,K rsz b xs=some r/\ρ (.g i n)=some v/\cK w (AA c w O) rsz b xs v (λah=>O (.g i n)=some ah):=by
 unfold lZ at h;split at h
 .rename_i hi;replace h:=aL h d;obtain⟨p,e,h⟩:=h;obtain⟨v,h1,a⟩:=yH hs hi e;exact⟨_,_,_,v,h,h1,a⟩
 .cases h
theorem iJ.bc{i:Id}{ah sz az rsz base:Nat}{e:Row}(h:iJ w A ρ O i ah sz az rsz base e):∃vs:List Value,vs.length=sz/\(∀j v,vs[j]? =some v->w.cell? ⟨ah,base+j,none⟩=some v)/\
  (∀j x v,j≠az->e.cs[j]? =some x->vs[j]? =some v->ax w A x v)/\∃v,vs[az]? =some v/\ρ (.g i e.n)=some v:=by
 obtain⟨h1,t,l,v,m,y,D⟩:=h;have o:∀j,j < sz->∃u,w.cell? ⟨ah,base+j,none⟩=some u:=by
  intro j a;by_cases d:j=az
  .subst d;exact⟨v,m⟩
  .obtain⟨u,g,_⟩:=l j (e.cs[j]'(by omega)) d (SZ _);exact⟨u,g⟩
 have get:∀j u,((List.range sz).map λj=>(w.cell? ⟨ah,base+j,none⟩).getD undef)[j]? =some u->w.cell? ⟨ah,base+j,none⟩=some u:=by intro j u a;rw [TM] at a;obtain⟨k,b,a⟩:=Vv.1 a;obtain⟨p,b⟩:=Ta.1 b;rw [Ve] at b;subst b;obtain⟨C,q⟩:=o j (by simpa using p);rw [q] at a⊢;simpa using a
 refine⟨_,by simp,get,λj x u a B z=> ?_,v, ?_,y⟩
 .obtain⟨C,f,r⟩:=l j x a B;rw [get j u z] at f;cases f;exact r
 .rw [TM,VU t];simp [m]
theorem ay.uv:∀{as:List AV} {vs:List Value},as.length=vs.length->(∀(j:Nat) (a:AV) (v:Value),as[j]? =some a->vs[j]? =some v->al w A ρ a v)->ay w A ρ as vs
 | [],[],_,_=>by simp [ay]
 | [],_::_,h,_=>by simp at h
 | _::_,[],h,_=>by simp at h
 | a::as,v::vs,h,hr=>by simp only [ay];exact⟨v,vs,rfl,hr 0 a v rfl rfl,ay.uv (by simpa using h) λj a v h1 b=>hr (j+1) a v (by simpa using h1) (by simpa using b)⟩
theorem JU{R:Type}(n:cc=none\/cc=some true):∀{ks:List Ck} {xs:List T} {vs:List Value} {az:Nat} {K:List T->Option R} {r:R},xs.length=vs.length->(∀(j:Nat) (x:T) (v:Value),j≠az->xs[j]? =some x->vs[j]? =some v->ax w A x v)->
  (∀k,ks[az]? =some k->k= .x)->eP cc ks xs K=some r->∃d,K d=some r/\d.length=vs.length/\∀j x v,j≠az->d[j]? =some x->vs[j]? =some v->ax w A x v
 | [],xs,vs,az,K,r,b,hr,f,h=>⟨xs,h,b,hr⟩
 | k::ks,[],vs,az,K,r,b,hr,f,h=>⟨[],h,b,by simp⟩
 | k::ks,x::xs,[],az,K,r,b,hr,f,h=>by simp at b
 | k::ks,x::xs,v::vs,0,K,r,b,hr,f,h=>by
  simp only [eP] at h;have:k= .x:=f k rfl;subst this;simp only [eZ] at h;have B:aR w A xs vs:=by
   have t:∀(xs:List T) (vs:List Value),xs.length=vs.length->(∀(j:Nat) (x:T) (v:Value),xs[j]? =some x->vs[j]? =some v->ax w A x v)->aR w A xs vs:=by
    intro xs;induction xs with
    | nil=>intro vs b _;cases vs;rfl;simp at b
    | cons x xs p=>
     intro vs b hr;cases vs with
     | nil=>simp at b
     | cons v vs=>exact⟨v,vs,rfl,hr 0 x v rfl rfl,p vs (by simpa using b) λj x v h1 e=>hr (j+1) x v (by simpa using h1) (by simpa using e)⟩
   exact t xs vs (by simpa using b) λj x v h1 e=>hr (j+1) x v (by omega) (by simpa using h1) (by simpa using e)
  obtain⟨d,h,g⟩:=uW n B h;have gl:=g.length;refine⟨_,h,by simp;omega,λj y u o hy i=> ?_⟩;cases j with
  | zero=>exact(o rfl).elim
  | succ j=>
   simp only [U3] at hy i;have:∀(d:List T) (vs:List Value) (j:Nat),aR w A d vs->d[j]? =some y->vs[j]? =some u->ax w A y u:=by
    intro d;induction d with
    | nil=>intro vs j _ h;simp at h
    | cons a d p=>
     rintro vs j ⟨D,q,rfl,l,m⟩ h1 e;cases j with
     | zero=>simp at h1 e;subst h1;subst e;exact l
     | succ j=>exact p q j m (by simpa using h1) (by simpa using e)
   exact this d vs j g hy i
 | k::ks,x::xs,v::vs,az+1,K,r,b,hr,f,h=>by
  simp only [eP] at h;obtain⟨y,h,l⟩:=pg n (hr 0 x v (by omega) rfl rfl) h;obtain⟨d,h,m,C⟩:=JU n (az:=az) (by simpa using b) (λj x v o h1 e=>hr (j+1) x v (by omega) (by simpa using h1) (by simpa using e)) (λk z=>f k (by simpa using z)) h;refine⟨_,h,by simp [m],λj y' u o hy i=> ?_⟩;cases j with
  | zero=>simp at hy i;subst hy;subst i;exact l
  | succ j=>exact C j y' u (by omega) (by simpa using hy) (by simpa using i)
theorem Ol{R:Type}{t:TypeId}{i:Id}{ah sz az rsz base off:Nat}{e:Row}{h:Id->Option aa}{K:AV->Option R}{r:R}(hs:HS c w h ρ O)(z:bL P t=true)(m:cc=none\/cc=some true)(hr:iJ w (AA c w O) ρ O i ah sz az rsz base e)(b:rP P t cc i sz az off e K=some r):
  ∃av v,K av=some r/\(loadVar t ⟨ah,base+off,none⟩).run P w= .ok v w/\al w (AA c w O) ρ av v:=by
 unfold rP at b;cases hb:bm P t
 .simp only [hb,cond_false] at b;split at b
  .rename_i d;subst d;obtain⟨_,_,_,v,I,J,_⟩:=hr;exact⟨_,v,b,yI z hb _ _ v I,by simp only [al];exact J⟩
  .rename_i D;replace b:=aL b m;obtain⟨x,p,b⟩:=b;have E:e.cs[off]? =some x:=by rw [List.head?_drop] at p;exact p
   obtain⟨u,q,g⟩:=hr.2.2.1 off x D E;obtain⟨y,b,H⟩:=pg m g b;exact⟨_,u,b,yI z hb _ _ u q,by simp only [al];exact H⟩
 .simp only [hb,cond_true] at b;split at b
  .rename_i n;obtain⟨rfl,V⟩:=n;obtain⟨l,M,W,b⟩:=yW m b;have N:=hr.1;have C:l=e.cs:=by rw [M,Um (by omega)]
   subst C;obtain⟨vs,X,S,T,Y,F,G⟩:=hr.bc;have L:=hr.2.1;obtain⟨U,b,q,g⟩:=JU m (ks:=(tn P t).set az .x) (az:=az) (by omega) T (λk b=>by
    rw [Ue] at b;simp only [if_true] at b;split at b
    .simpa using b.symm
    .cases b) b
   refine⟨_, .agg vs.toArray,b, ?_, ?_⟩
   .rw [VR];exact CD z hb _ _ vs (by omega) S
   .simp only [al];refine⟨vs,rfl,ay.uv (by simp [q]) λj a v f hv=> ?_,λu Q=> ?_⟩
    .rw [Ue] at f;by_cases d:az=j
     .subst d;rw [if_pos rfl] at f;split at f
      .simp only [SR] at f;subst f;rw [F] at hv;cases hv;simp only [al];exact G
      .cases f
     .rw [if_neg d,TM] at f;obtain⟨x,p,rfl⟩:=Vv.1 f;simp only [al];exact g j x v (λe=>d e.symm) p hv
    .obtain⟨j,o⟩:=Wa.1 Q;by_cases d:j=az
     .subst d;rw [F] at o;cases o;exact hs.gone _ _ _ G
     .have B:j < U.length:=by have:=(Ta.1 o).1;omega
      exact(g j _ u d (SZ B) o).pZ
  .cases b
theorem Hf{R:Type}{t:TypeId}{a:AV}{va:Value}{K:AV->Option R}{r:R}(hs:HS c w s.h ρ O)(f:al w (AA c w O) ρ a va)(g:cc=none\/cc=some true)(h:jV P s cc t a K=some r):
  ∃av v,K av=some r/\(Instr.loadAt t va).run P w= .ok v w/\al w (AA c w O) ρ av v:=by
 unfold jV at h;cases B:bL P t
 .simp [B] at h
 simp only [B,cond_true] at h;split at h
 .rename_i i off;split at h
  .rename_i cs hi;obtain⟨b,arr,Q,h1,F,W,M,C,h6⟩:=Aa hs hi;simp only [al] at f;obtain⟨b',d,rfl⟩:=f;rw [h1] at d;simp only [SR,UP,T5] at d;obtain⟨rfl,_⟩:=d;obtain⟨av,v,p,H,I⟩:=Oo (b:=b) (off:=off) B (M.drop off) (λu hu=>C u (UL hu)) (λj v X=>h6 _ v (by rw [Vz] at X;exact X)) h;exact⟨av,v,p,by simpa [Instr.loadAt,Instr.sureAddr] using H,I⟩
  .rename_i l hi;obtain⟨b,h1,F,W,M⟩:=hs.ah i _ hi;simp only [al] at f;obtain⟨b',d,rfl⟩:=f;rw [h1] at d;simp only [SR,UP,T5] at d;obtain⟨rfl,_⟩:=d;have C:=M.drop off;rw [TC] at C;obtain⟨av,v,p,H,I⟩:=yc B g C h;exact⟨av,v,p,by simpa [Instr.loadAt,Instr.sureAddr] using H,I⟩
  .simp at h
 .rename_i i sz k off;split at h
  .rename_i fz Z bb xs hi;split at h
   .rename_i z;subst z;replace h:=aL h g;obtain⟨cs,m,h⟩:=h;obtain⟨v,h1,F⟩:=qo hs hi;simp only [al] at f;obtain⟨b,o,L,cap,d,rfl⟩:=f;rw [h1] at d;simp only [SR] at d;subst d;obtain⟨a',cap',p,H,I,g4,J⟩:=F;simp only [Uf] at p;obtain⟨rfl,rfl,rfl⟩:=p;have N:k < xs.length:=(Ta.1 m).1;rcases J with J | ⟨ah,off',arr,Q,y,S,U,V,q⟩
    .omega
    .simp only [SR,T5] at y;obtain⟨rfl,rfl,_⟩:=y;obtain⟨_,G⟩:=q.get m;obtain⟨av,v,q1,D,E⟩:=yc (ρ:=ρ) B g (G.drop off) h;exact⟨av,v,q1,by simpa [Instr.loadAt,Instr.sureAddr] using D,E⟩
   .simp at h
  .rename_i bb Z az rsz nx es hi;split at h
   .rename_i z;subst z;replace h:=aL h g;obtain⟨e,m,h⟩:=h;obtain⟨a,cap,h1,F,W,M,C⟩:=hs.ah i _ hi;simp only [al] at f;obtain⟨b,o,L,cap',d,rfl⟩:=f;rw [h1] at d;simp only [SR,Uf] at d;obtain⟨rfl,rfl,rfl⟩:=d;have N:k < es.length:=(Ta.1 m).1;rcases C with C | ⟨ah,off',arr,Q,y,S,U,V,q⟩
    .omega
    .simp only [SR,T5] at y;obtain⟨rfl,rfl,_⟩:=y;obtain⟨av,v,q1,D,E⟩:=Ol hs B g (q.get m) h;exact⟨av,v,q1,by simpa [Instr.loadAt,Instr.sureAddr] using D,E⟩
   .simp at h
  .simp at h
 .rename_i i sz n k off;replace h:=Cz hs g h;obtain⟨rsz,bb,xs,v,h,hv,Y⟩:=h;split at h
  .rename_i z;subst z;replace h:=aL h g;obtain⟨cs,m,h⟩:=h;simp only [al] at f;obtain⟨b,o,L,cap,d,rfl⟩:=f;rw [hv] at d;simp only [SR] at d;subst d;obtain⟨a',cap',p,H,I,g4,J⟩:=Y;simp only [Uf] at p;obtain⟨rfl,rfl,rfl⟩:=p;have N:k < xs.length:=(Ta.1 m).1;rcases J with J | ⟨ah,off',arr,Q,y,S,U,V,q⟩
   .omega
   .simp only [SR,T5] at y;obtain⟨rfl,rfl,_⟩:=y;obtain⟨_,G⟩:=q.get m;obtain⟨av,v,q1,D,E⟩:=yc (ρ:=ρ) B g (G.drop off) h;exact⟨av,v,q1,by simpa [Instr.loadAt,Instr.sureAddr] using D,E⟩
  .simp at h
 .rename_i x;replace h:=aL h g;obtain⟨cs,m,h⟩:=h;have:=T.yv m;subst this;simp only [al,ax] at f;obtain⟨ah,off,rfl,h1,F⟩:=f;obtain⟨av,v,q1,D,E⟩:=yc (ρ:=ρ) B g F h;exact⟨av,v,q1,by simpa [Instr.loadAt,Instr.sureAddr] using D,E⟩
 .simp at h
theorem A9{t:TypeId}{f:Nat}{p:Nat×TypeId}(h:tO P t f=some p):∃a x,P.underlying t=some (.struct a)/\a[f]? =some x/\p= (x.offset,x.type)/\bL P p.2=true:=by
 unfold tO at h;split at h
 .rename_i a d;split at h
  .rename_i x e;cases b:bL P x.type
   .simp [b] at h
   .simp only [b,cond_true,SR] at h;subst h;exact⟨a,x,d,e,rfl,b⟩
  .simp at h
 .simp at h
theorem xz{t e:TypeId}(h:m9 P t=some e):P.underlying t=some (.slice e)/\bL P e=true:=by
 unfold m9 at h;split at h
 .rename_i b d;cases a:bL P b
  .simp [a] at h
  .simp only [a,cond_true,SR] at h;subst h;exact⟨d,a⟩
 .simp at h
theorem DS{t:TypeId}{p:Nat×TypeId}(h:wQ P t=some p):P.underlying t=some (.array p.1 p.2)/\bL P p.2=true:=by
 unfold wQ at h;split at h
 .rename_i n b d;cases a:bL P b
  .simp [a] at h
  .simp only [a,cond_true,SR] at h;subst h;exact⟨d,a⟩
 .simp at h
theorem Nu{R:Type}{t:TypeId}{x:AV}{m:Value}{f:Nat}{K:AV->Option R}{r:R}(a:al w A ρ x m)(B:cc=none\/cc=some true)(h:rF P cc t x f K=some r):
  ∃av v,K av=some r/\(Instr.fieldAt t m f).run P w= .ok v w/\al w A ρ av v:=by
 unfold rF at h;split at h
 .rename_i off u C;obtain⟨E,y,h1,q,l,z⟩:=A9 C;simp only [T0] at l;obtain⟨rfl,rfl⟩:=l;split at h
  .simp at h
  .rename_i hz;have d:∀b o,(Instr.fieldAt t (.pointer (some ⟨b,o,none⟩)) f).run P w= .ok (.pointer (some ⟨b,o+y.offset,none⟩)) w:=by
    intro b o;simp [Instr.fieldAt,run_underlying h1,q,Instr.sureAddr,fieldPlace,jd z,hz,gM]
   split at h
   .rename_i j o;simp only [al] at a;obtain⟨b,e,rfl⟩:=a;exact⟨_,_,h,d _ _,by simp only [al];exact⟨b,e,rfl⟩⟩
   .rename_i j sz k o;simp only [al] at a;obtain⟨b,i,L,cap,e,rfl⟩:=a;exact⟨_,_,h,d _ _,by simp only [al];exact⟨b,i,L,cap,e,by rw [VK]⟩⟩
   .rename_i j sz n k o;simp only [al] at a;obtain⟨b,i,L,cap,e,rfl⟩:=a;exact⟨_,_,h,d _ _,by simp only [al];exact⟨b,i,L,cap,e,by rw [VK]⟩⟩
   .rename_i y';replace h:=aL h B;obtain⟨cs,D,h⟩:=h;have:=T.yv D;subst this;simp only [al,ax] at a;obtain⟨ah,o,rfl,g,p⟩:=a;refine⟨_,_,h,d _ _, ?_⟩;simp only [al,ax];refine⟨ah,_,rfl, ?_,p.drop _⟩;rcases g with rfl | g
    .exact .inl (by simp)
    .exact .inr g
   .simp at h
 .simp at h
theorem oG{R:Type}{i:Int}{n:Nat}{K:Option R}{r:R}(b:cc=none\/cc=some true)(h:jT cc i n K=some r): 0<=i/\i < n/\K=some r:=by
 unfold jT at h;replace h:=aL h b;obtain⟨_,h1,h⟩:=h;split at h1
 .rename_i a;exact⟨a.1,a.2,h⟩
 .simp at h1
theorem NY{R:Type}{t:TypeId}{x:AV}{vx:Value}{i:Int}{ki:IntKind}{K:AV->Option R}{r:R}(hs:HS c w s.h ρ O)(d:al w (AA c w O) ρ x vx)(u:cc=none\/cc=some true)(h:jy P s cc t x i K=some r):
  ∃av v,K av=some r/\(Instr.indexAt t vx (.int ki i)).run P w= .ok v w/\al w (AA c w O) ρ av v:=by
 unfold jy at h;split at h
 .rename_i e J;obtain⟨M,F⟩:=xz J;have f:∀b o len cap,0<=i->i < (len:Nat)->(Instr.indexAt t (.slice (some ⟨b,o,none⟩) len cap) (.int ki i)).run P w= .ok (.pointer (some ⟨b,o+i.toNat * P.cellsOf e,none⟩)) w:=by
   intro b o len cap l h1;simp [Instr.indexAt,asIntOf,run_underlying M,l,h1,jd F,gM]
  split at h
  .rename_i j;split at h
   .rename_i fz sz bb xs D;split at h
    .rename_i q;subst q;obtain⟨l,h1,h⟩:=oG u h;obtain⟨v,g,m⟩:=qo hs D;simp only [al] at d;rw [g] at d;simp only [SR] at d;subst d;obtain⟨I,cap',q1,Z,q3,q4,z⟩:=m;rcases z with z | ⟨ah,off',arr,U,C,N,Q,S,G⟩
     .omega
     .subst C;subst q1;exact⟨_,_,h,f _ _ _ _ l h1,by simp only [al];exact⟨ah,off',_,_,g,by simp⟩⟩
    .simp at h
   .rename_i bb sz az rsz nx es D;split at h
    .rename_i q;subst q;obtain⟨l,h1,h⟩:=oG u h;obtain⟨a,cap,g,m,W,g4,H⟩:=hs.ah j _ D;simp only [al] at d;rw [g] at d;simp only [SR] at d;subst d;rcases H with H | ⟨ah,off',arr,U,C,N,Q,S,G⟩
     .omega
     .subst C;exact⟨_,_,h,f _ _ _ _ l h1,by simp only [al];exact⟨ah,off',_,_,g,by simp⟩⟩
    .simp at h
   .simp at h
  .rename_i j n;replace h:=Cz hs u h;obtain⟨rsz,bb,xs,v,h,hv,Y⟩:=h;split at h
   .rename_i q;subst q;obtain⟨l,h1,h⟩:=oG u h;simp only [al] at d;rw [hv] at d;simp only [SR] at d;subst d;obtain⟨I,cap',q1,Z,q3,q4,z⟩:=Y;rcases z with z | ⟨ah,off',arr,U,C,N,Q,S,G⟩
    .omega
    .subst C;subst q1;exact⟨_,_,h,f _ _ _ _ l h1,by simp only [al];exact⟨ah,off',_,_,hv,by simp⟩⟩
   .simp at h
  .rename_i j sz off n;split at h
   .rename_i fz sz' bb xs D;split at h
    .rename_i q;obtain⟨rfl,rfl⟩:=q;obtain⟨l,h1,h⟩:=oG u h;obtain⟨v,g,m⟩:=qo hs D;simp only [al] at d;obtain⟨a,L,cap,I,B,e2,e3,rfl,e4⟩:=d;rw [g] at B;simp only [SR] at B;subst B;obtain⟨a'',cap'',q1,Z,q3,q4,z⟩:=m;simp only [Uf] at q1;obtain⟨rfl,rfl,rfl⟩:=q1;rcases z with z | ⟨ah,off',arr,U,C,N,Q,S,G⟩
     .omega
     .subst C;have ea:I=some ⟨ah,off'+off * P.cellsOf e,none⟩:=by
       rcases e4 with⟨rfl,rfl⟩ | ⟨rfl,_⟩ | ⟨b,o,V,e6⟩
       .simp
       .omega
       .simp only [SR,T5] at V;obtain⟨rfl,rfl,_⟩:=V;exact e6
      subst ea;refine⟨_,_,h,f _ _ _ _ l h1, ?_⟩;simp only [al];exact⟨ah,off',_,_,g,by congr 3;rw [Vi];omega⟩
    .simp at h
   .simp at h
  .rename_i y;replace h:=aL h u;obtain⟨p,hp,h⟩:=h;obtain⟨l,h1,h⟩:=oG u h;replace h:=aL h u;obtain⟨cs,E,h⟩:=h;rcases T.pV hp with rfl | ⟨rfl,X⟩
   .simp only [al,ax] at d;rcases d with⟨_,e,_⟩ | ⟨_,ah,off,sp,cap,rfl,g,m,W⟩
    .rw [e] at h1;simp at h1;omega
    .rcases m with m | ⟨rfl,m⟩
     .rw [m] at E;simp at E
     refine⟨_,_,h,f _ _ _ _ l h1, ?_⟩;obtain⟨g4,H⟩:=W.get E;simp only [al,ax];exact⟨ah,_,rfl, .inr m,H⟩
   .rw [X] at h1;simp at h1;omega
  .simp at h
 .split at h
  .rename_i n e J;obtain⟨M,F⟩:=DS J;obtain⟨l,h1,h⟩:=oG u h;have f:∀b o,(Instr.indexAt t (.pointer (some ⟨b,o,none⟩)) (.int ki i)).run P w= .ok (.pointer (some ⟨b,o+i.toNat * P.cellsOf e,none⟩)) w:=by
    intro b o;simp [Instr.indexAt,asIntOf,run_underlying M,Instr.sureAddr,l,h1,jd F,gM]
   split at h
   .rename_i j off;simp only [al] at d;obtain⟨b,B,rfl⟩:=d;exact⟨_,_,h,f _ _,by simp only [al];exact⟨b,B,rfl⟩⟩
   .rename_i j sz k off;simp only [al] at d;obtain⟨b,o',L,cap,B,rfl⟩:=d;exact⟨_,_,h,f _ _,by simp only [al];exact⟨b,o',L,cap,B,by rw [VK]⟩⟩
   .rename_i y;replace h:=aL h u;obtain⟨cs,E,h⟩:=h;have:=T.yv E;subst this;simp only [al,ax] at d;obtain⟨ah,o,rfl,g,m⟩:=d;refine⟨_,_,h,f _ _, ?_⟩;simp only [al,ax];refine⟨ah,_,rfl, ?_,m.drop _⟩;rcases g with rfl | g
    .exact .inl (by simp)
    .exact .inr g
   .simp at h
  .simp at h
end
open Go
section
variable {P:Program} {w w':World} {A A':Nat->Prop} {c:Ctx} {ρ:Id->Option Value} {O:Id->Option Nat} {s:St} {cc:Option Bool}
theorem Oe{R:Type}{t ty:TypeId}{ts:Array TypeId}{x:AV}{u:Value}{K:AV->Option R}{r:R}(hs:HS c w s.h ρ O)(d:al w (AA c w O) ρ x u)(l:cc=none\/cc=some true)(h:ny P s cc t x K=some r)
  (g:ts[0]? =some t):∃av v,K av=some r/\(Builtin.len_ ts ty #[u]).run P w= .ok v w/\al w (AA c w O) ρ av v:=by
 unfold ny at h;split at h
 .rename_i i;split at h
  .rename_i y;replace h:=aL h l;obtain⟨b,hb,h⟩:=h;have:=T.ko hb;subst this;simp only [al,ax] at d;subst d;exact⟨_,_,h,by simp [Builtin.len_,g,run_underlying i];rfl,by simp only [al];exact gr _ _ _ _⟩
  .simp at h
 .rename_i n e i;exact⟨_,_,h,by simp [Builtin.len_,g,run_underlying i];rfl,by simp only [al];exact gr _ _ _ _⟩
 .rename_i e i;have f:∀a n cap,(Builtin.len_ ts ty #[.slice a n cap]).run P w= .ok (goInt n) w:=by
   intro a n cap;simp [Builtin.len_,g,run_underlying i]
  split at h
  .rename_i j;split at h
   .rename_i F sz bb xs m;obtain⟨v,k,o,cap',q1,I,J,M,N⟩:=qo hs m;simp only [al] at d;rw [k] at d;simp only [SR] at d;subst d;subst q1;exact⟨_,_,h,f _ _ _,by simp only [al];exact gr _ _ _ _⟩
   .rename_i bb sz az rsz nx es m;obtain⟨a,cap,k,_⟩:=hs.ah j _ m;simp only [al] at d;rw [k] at d;simp only [SR] at d;subst d;exact⟨_,_,h,f _ _ _,by simp only [al];exact gr _ _ _ _⟩
   .simp at h
  .rename_i j n;replace h:=Cz hs l h;obtain⟨rsz,bb,xs,v,h,hv,o,cap',q1,_⟩:=h;simp only [al] at d;rw [hv] at d;simp only [SR] at d;subst d;subst q1;exact⟨_,_,h,f _ _ _,by simp only [al];exact gr _ _ _ _⟩
  .rename_i j sz off n;simp only [al] at d;obtain⟨a,L,cap,o,C,D,e3,rfl,E⟩:=d;exact⟨_,_,h,f _ _ _,by simp only [al];exact gr _ _ _ _⟩
  .rename_i y;replace h:=aL h l;obtain⟨p,z,h⟩:=h;rcases T.pV z with rfl | ⟨rfl,q⟩
   .simp only [al,ax] at d;rcases d with⟨_,e,rfl⟩ | ⟨_,ah,off,B,cap,rfl,k,G,H⟩
    .refine⟨_,_,h,f _ _ _, ?_⟩;simp only [al,e];exact gr _ _ _ _
    .exact⟨_,_,h,f _ _ _,by simp only [al];exact gr _ _ _ _⟩
   .simp only [al,ax] at d;rw [q] at h;rcases d with⟨_,rfl⟩ | ⟨_,ah,off,B,rfl⟩ <;> exact⟨_,_,h,f _ _ _,by simp only [al];exact gr _ _ _ _⟩
  .simp at h
 .simp at h
theorem zV{x:T}{n:Int}(h:iP.anyInt x=some n):∃k,x= .int k n:=by cases x <;> simp_all [iP.anyInt]
def jn(b:Option Int)(v:Option Value):Prop:=match b,v with
 | none,none=>True
 | some n,some (.int _ m)=>m=n
 | _,_=>False
theorem z9{R:Type}{a:Act}{g:Option Gs}{o:Option Operand}{K:Option Int->Option R}{r:R}(i:SS w A ρ s.t a.tmps)(hr:kC a.tmps g)(e:cc=none\/cc=some true)(h:iP s cc g o K=some r):
  ∃b,K b=some r/\jn b (o.map a.eval):=by
 unfold iP at h;split at h
 .exact⟨none,h,trivial⟩
 .rename_i o;cases d:(s.get g o).t? with
  | none=>simp [d] at h
  | some x=>simp only [d,S9] at h;replace h:=aL h e;obtain⟨n,f,h⟩:=h;obtain⟨k,rfl⟩:=zV f;have:=SS.get (h:=s.h) i hr o;rw [show(⟨s.t,s.h⟩:St)=s from rfl,AV.l8 d] at this;simp only [al,ax] at this;exact⟨some n,h,by simp [jn,this]⟩
theorem xW{a hi n:Int}(h:cT a hi n=some ()): 0<=a/\a<=hi/\hi<=n:=by
 unfold cT at h;split at h
 .assumption
 .simp at h
theorem vH{v:Option Value}(h:jn none v):v=none:=by cases v <;> simp_all [jn]
theorem qN{n:Int}{v:Option Value}(h:jn (some n) v):∃k,v=some (.int k n):=by
 cases v with
 | none=>simp [jn] at h
 | some v=>cases v <;> simp_all [jn]
theorem sd(k:IntKind)(n:Int)(y:Nat)(a:BoundsCode)(b: 0<=n)(h1:n<=y):(Instr.sliceBound (.int k n) y a).run P w= .ok n.toNat w:=run_sliceBound w k n y a b h1
theorem IJ(p:Bool){b hi:Option Int}{i g:Option Value}{len cap:Nat}(f:jn b i)(o:jn hi g)(h1: 0<=b.getD 0)(d:b.getD 0<=hi.getD len)(j:hi.getD len<=cap):
  (Instr.sliceBounds p len cap i g none).run P w= .ok ((b.getD 0).toNat,(hi.getD len).toNat,cap) w:=by
 cases hi with
 | none=>
  have:=vH o;subst this;simp only [TS] at d j⊢;cases b with
  | none=>have:=vH f;subst this;simp [Instr.sliceBounds]
  | some n=>obtain⟨k,rfl⟩:=qN f;simp only [Ts] at h1 d⊢;have e:=sd (P:=P) (w:=w) k n len .sliceB h1 d;simp [Instr.sliceBounds,e]
 | some m=>
  obtain⟨q,rfl⟩:=qN o;simp only [Ts] at d j⊢;have l:∀a,(Instr.sliceBound (.int q m) cap a).run P w= .ok m.toNat w:=λa=>sd q m cap a (by omega) j;cases b with
  | none=>have:=vH f;subst this;simp [Instr.sliceBounds,l]
  | some n=>obtain⟨k,rfl⟩:=qN f;simp only [Ts] at h1 d⊢;have e:=sd (P:=P) (w:=w) k n m.toNat .sliceB h1 (by omega);simp [Instr.sliceBounds,e,l]
theorem Rb{R:Type}{t:TypeId}{x:AV}{vx:Value}{g hi mx:Option Int}{S Q E:Option Value}{K:AV->Option R}{r:R}(hs:HS c w s.h ρ O)(q:al w (AA c w O) ρ x vx)(I:cc=none\/cc=some true)
  (hl:jn g S) (hh:jn hi Q) (hm:jn mx E) (h:nR P s cc t x g hi mx K=some r):
  ∃av v,K av=some r/\(Instr.sliceAt t vx S Q E).run P w= .ok v w/\al w (AA c w O) ρ av v:=by
 unfold nR at h;split at h
 .rename_i Z;split at h
  .rename_i y;replace h:=aL h I;obtain⟨b,hb,h⟩:=h;have:=T.ko hb;subst this;simp only [al,ax] at q;subst q;replace h:=aL h I;obtain⟨_,hb,h⟩:=h;obtain⟨h1,l,B⟩:=xW hb;have hvm:E=none:=by cases E with | none=>rfl | some v=>simp [jn] at hm
   subst hvm;refine⟨_,_,h, ?_,by simp only [al];exact lX _ _ _⟩;have:=IJ (P:=P) (w:=w) false (len:=b.size) (cap:=b.size) hl hh h1 l B;simp [Instr.sliceAt,Instr.slice,run_underlying Z,this]
  .simp at h
 .rename_i e Z;split at h
  .have hvm:E=none:=by cases E with | none=>rfl | some v=>simp [jn] at hm
   subst hvm
   have z:bL P e=true->∀(a:Option Addr) (len cap:Nat),0<=g.getD 0->g.getD 0<=hi.getD len->hi.getD len<=cap->
     (Instr.sliceAt t (.slice a len cap) S Q none).run P w= .ok (.slice (if cap= (g.getD 0).toNat then a else a.map (·.add ((g.getD 0).toNat * P.cellsOf e))) ((hi.getD len).toNat - (g.getD 0).toNat) (cap - (g.getD 0).toNat)) w:=by
    intro f a len cap h1 l B;have:=IJ (P:=P) (w:=w) true hl hh h1 l B;simp [Instr.sliceAt,Instr.slice,run_underlying Z,this,jd f]
   split at h
   .rename_i j;split at h
    .rename_i fz sz bb xs Y;split at h
     .rename_i N;obtain⟨N,f⟩:=N;subst N;replace h:=aL h I;obtain⟨_,hb,h⟩:=h;obtain⟨h1,l,B⟩:=xW hb;obtain⟨v,G,F,cap',q1,q2,q3,q4,U⟩:=qo hs Y;simp only [al] at q;rw [G] at q;simp only [SR] at q;subst q;subst q1;refine⟨_,_,h,z f _ _ _ h1 l (by omega), ?_⟩;simp only [al];refine⟨F,_,cap',_,G,by omega,q2,rfl, ?_⟩;by_cases e0:(g.getD 0).toNat=0
      .left;refine⟨e0, ?_⟩;rw [e0];split
       .rfl
       .cases F <;> simp [Addr.add]
      .by_cases i:cap'= (g.getD 0).toNat
       .right;left;rw [if_pos i];exact⟨i.symm,WX,q4⟩
       .right;right;rw [if_neg i];rcases U with U | ⟨ah,off',arr,t',q6,_⟩
        .omega
        .subst q6;exact⟨ah,off',rfl,by simp [gM]⟩
     .simp at h
    .simp at h
   .rename_i j sz off n;split at h
    .rename_i fz sz' bb xs Y;split at h
     .rename_i N;obtain⟨rfl,rfl,f⟩:=N;replace h:=aL h I;obtain⟨_,hb,h⟩:=h;obtain⟨h1,l,B⟩:=xW hb;simp only [al] at q;obtain⟨a,L,cap,F,i,e2,e3,rfl,e4⟩:=q;obtain⟨v,G,a'',cap'',q1,q2,q3,q4,U⟩:=qo hs Y;rw [G] at i;simp only [SR] at i;subst i;simp only [Uf] at q1;obtain⟨rfl,rfl,rfl⟩:=q1;refine⟨_,_,h,z f _ _ _ h1 l (by omega), ?_⟩;simp only [al];refine⟨a,_,cap,_,G,by omega,e3,by congr 1;omega, ?_⟩;by_cases e0:(g.getD 0).toNat=0
      .have:(if cap - off= (g.getD 0).toNat then F else F.map (·.add ((g.getD 0).toNat * P.cellsOf e)))=F:=by
        rw [e0];split
        .rfl
        .cases F <;> simp [Addr.add]
       rw [this,e0,VR];exact e4
      .by_cases M:cap - off= (g.getD 0).toNat
       .right;left;rw [if_pos M];refine⟨by omega, ?_, ?_⟩
        .rcases e4 with⟨_,rfl⟩ | ⟨_,C,_⟩ | ⟨b,o,rfl,rfl⟩
         .exact WX
         .exact C
         .simp
        .trivial
       .right;right;rw [if_neg M];rcases U with U | ⟨ah,off',arr,t',q6,_⟩
        .omega
        .subst q6;rcases e4 with⟨e7,rfl⟩ | ⟨e7,_⟩ | ⟨b,o,C,rfl⟩
         .subst e7;exact⟨ah,off',rfl,by simp [gM]⟩
         .omega
         .exact⟨b,o,C,by simp [gM,Vi,VK]⟩
     .simp at h
    .simp at h
   .rename_i y;split at h
    .rename_i f;replace h:=aL h I;obtain⟨p,hp,h⟩:=h;replace h:=aL h I;obtain⟨_,hb,h⟩:=h;obtain⟨h1,l,B⟩:=xW hb;rcases T.pV hp with rfl | ⟨rfl,hp2⟩
     .simp only [al,ax] at q;rcases q with⟨i,e,rfl⟩ | ⟨i,ah,off,D,cap,rfl,G,H,g3⟩
      .rw [e] at l B h;refine⟨_,_,h,z f _ _ _ (by simpa using h1) (by simpa using l) (by simpa using B), ?_⟩;simp only [T6,Int.natCast_zero] at l B;have M:(g.getD 0).toNat=0:=by omega
       have C:(hi.getD ((0:Nat):Int)).toNat=0:=by
        have:hi.getD ((0:Nat):Int)=hi.getD 0:=by simp
        rw [this];omega
       simp only [al,ax,sub,Xa,Xb];left;refine⟨i,trivial, ?_⟩;rw [C];simp
      .refine⟨_,_,h,z f _ _ _ h1 l (by omega), ?_⟩;simp only [al,ax];right;refine⟨i, ?_⟩;by_cases M:cap= (g.getD 0).toNat
       .rw [if_pos M];have C:(hi.getD ((p.2.length:Nat):Int)).toNat - (g.getD 0).toNat=0:=by omega
        refine⟨ah,off,D,cap - (g.getD 0).toNat, ?_, ?_, .inl ?_, ?_⟩
        .simp only [sub,C,Vs,T6]
        .simp only [sub,C,Vs,T6];omega
        .simp [sub,C]
        .simp [sub,C,aY]
       .rw [if_neg M];have J:(sub (g.getD 0) (hi.getD ((p.2.length:Nat):Int)) p.2).length= (hi.getD ((p.2.length:Nat):Int)).toNat - (g.getD 0).toNat:=by
         simp only [sub,T3,UK];omega
        rcases H with H | ⟨H,g4⟩
        .have e7:(g.getD 0).toNat=0:=by rw [H] at B;simp only [T6] at B;rw [H] at l;simp only [T6] at l;omega
         refine⟨ah,off,D,cap - (g.getD 0).toNat, ?_, ?_, .inl (by simp [sub,H]),by simp [sub,H,aY]⟩
         .rw [J,e7];simp [Addr.add]
         .rw [J];omega
        .subst H;refine⟨ah,off+ (g.getD 0).toNat * P.cellsOf e,none,cap - (g.getD 0).toNat, ?_, ?_, .inr ⟨rfl,g4⟩, ?_⟩
         .rw [J];simp only [UR,gM]
         .rw [J];omega
         .exact(g3.drop _).take _
     .rw [hp2] at l B h;simp only [al,ax] at q;simp only [T6,Int.natCast_zero] at l B;have M:(g.getD 0).toNat=0:=by omega
      have C:(hi.getD ((0:Nat):Int)).toNat=0:=by
       have:hi.getD ((0:Nat):Int)=hi.getD 0:=by simp
       rw [this];omega
      rcases q with⟨i,rfl⟩ | ⟨i,ah,off,D,rfl⟩
      .refine⟨_,_,h,z f _ _ _ (by simpa using h1) (by simpa using l) (by simpa using B), ?_⟩;simp only [al,ax,sub,Xa,Xb];left;refine⟨i,trivial, ?_⟩;rw [C];simp
      .refine⟨_,_,h,z f _ _ _ (by simpa using h1) (by simpa using l) (by simpa using B), ?_⟩;simp only [al,ax,sub,Xa,Xb,aY];right;refine⟨i,ah,off,D,0, ?_,by simp, .inl trivial,trivial⟩;rw [M,C];simp
    .simp at h
   .simp at h
  .rename_i m;obtain⟨km,rfl⟩:=qN hm
   have z:bL P e=true->g.getD 0=0->hi.getD 1=0->m=0->∀(a:Option Addr) (len cap:Nat),
     (Instr.sliceAt t (.slice a len cap) S Q (some (.int km m))).run P w= .ok (.slice a 0 0) w:=by
    intro f h1 l B a len cap;cases hi with
    | none=>simp at l
    | some hn=>
     obtain⟨kh,rfl⟩:=qN hh;simp only [Ts] at l;subst l;subst B;have i:∀k,(Instr.sliceBound (.int km 0) cap k).run P w= .ok 0 w:=λk=>sd km 0 cap k (by omega) (by omega);have e2:∀k,(Instr.sliceBound (.int kh 0) 0 k).run P w= .ok 0 w:=λk=>sd kh 0 0 k (by omega) (by omega);cases g with
     | none=>have:=vH hl;subst this;simp [Instr.sliceAt,Instr.slice,run_underlying Z,Instr.sliceBounds,i,e2,jd f]
     | some ln=>obtain⟨kl,rfl⟩:=qN hl;simp only [Ts] at h1;subst h1;have e3:∀k,(Instr.sliceBound (.int kl 0) 0 k).run P w= .ok 0 w:=λk=>sd kl 0 0 k (by omega) (by omega);simp [Instr.sliceAt,Instr.slice,run_underlying Z,Instr.sliceBounds,i,e2,e3,jd f]
   have zs:∀{a b d:Int} {u:Unit},zf a b d=some u->a=0/\b=0/\d=0:=by
    intro a b d u hz;unfold zf at hz;split at hz
    .assumption
    .simp at hz
   split at h
   .rename_i y;split at h
    .rename_i f;replace h:=aL h I;obtain⟨p,hp,h⟩:=h;replace h:=aL h I;obtain⟨_,hz,h⟩:=h;obtain⟨V,W,X⟩:=zs hz;rcases T.pV hp with rfl | ⟨rfl,hp2⟩
     .simp only [al,ax] at q;rcases q with⟨i,e,rfl⟩ | ⟨i,ah,off,D,cap,rfl,G,H,g3⟩
      .exact⟨_,_,h,z f V W X _ _ _,by simp only [al,ax];exact .inl ⟨i,trivial⟩⟩
      .exact⟨_,_,h,z f V W X _ _ _,by simp only [al,ax];exact .inr ⟨i,ah,off,D,rfl⟩⟩
     .simp only [al,ax] at q;rcases q with⟨i,rfl⟩ | ⟨i,ah,off,D,rfl⟩
      .exact⟨_,_,h,z f V W X _ _ _,by simp only [al,ax];exact .inl ⟨i,trivial⟩⟩
      .exact⟨_,_,h,z f V W X _ _ _,by simp only [al,ax];exact .inr ⟨i,ah,off,D,rfl⟩⟩
    .simp at h
   .rename_i j;split at h
    .rename_i fz sz bb xs Y;split at h
     .simp at h
     .rename_i f;simp only [Bool.not_eq_false] at f;replace h:=aL h I;obtain⟨_,hz,h⟩:=h;obtain⟨V,W,X⟩:=zs hz;obtain⟨v,G,F,cap',q1,q2,q3,q4,U⟩:=qo hs Y;simp only [al] at q;rw [G] at q;simp only [SR] at q;subst q;subst q1;refine⟨_,_,h,z f V W X _ _ _, ?_⟩;simp only [al,ax];cases bb
      .right;cases F with
       | none=>simp at q3
       | some x=>obtain⟨b,o,D⟩:=x;exact⟨rfl,b,o,D,rfl⟩
      .left;exact⟨rfl,by rw [q3.2 rfl]⟩
    .simp at h
   .simp at h
 .simp at h
end
open Go
section
variable {P:Program} {w w':World} {A A':Nat->Prop} {c:Ctx} {ρ:Id->Option Value} {O:Id->Option Nat} {s:St} {cc:Option Bool} {h:Id->Option aa}
def r8(v:AV)(i:Id):Prop:=v= .own i\/(∃sz off n,v= .part i sz off n)\/∃off,v= .ref i off
theorem nQ{i:Id}{a b:Bool}{sz:Nat}{l:List (List T)}(hs:HS c w h ρ O)(hi:h i=some (.sl a sz b l)):∃v,ρ i=some v/\cK w (AA c w O) sz b l v (λah=>if a=true then AA c w O ah else O i=some ah):=by obtain⟨v,h1,d,_⟩:=hs.ah i _ hi;exact⟨v,h1,d⟩
theorem mN{v:AV}{x:T}{u:Value}(hs:HS c w h ρ O)(hv:al w (AA c w O) ρ v u)(d:du h v=some x)
  (k:∀b,AA c w O b->A' b) (M:∀i ah,r8 v i->O i=some ah->A' ah):ax w A' x u:=by
 have mono:∀(t:T) (v:Value),ax w (AA c w O) t v->ax w A' t v:=λt v hr=>ax.mono (λb hb=>⟨k b hb,rfl⟩) t v hr;cases v <;> simp only [du,reduceCtorEq,SR] at d
 case t y=>subst d;simp only [al] at hv;exact mono _ _ hv
 case own i=>
  split at d
  .rename_i H sz b xs hi;simp only [SR] at d;subst d;obtain⟨v',I,a,cap,q1,R,z,q4,e⟩:=nQ hs hi;simp only [al] at hv;rw [I] at hv;simp only [SR] at hv;subst hv;subst q1;simp only [ax];cases b with
   | true=>
    left;have:a=none:=z.2 rfl;subst this;rcases e with e | ⟨ah,off,arr,t,m,_⟩
    .have:xs= []:=To.1 (by omega);subst this;subst e;exact⟨rfl,rfl,rfl⟩
    .cases m
   | false=>
    right;refine⟨rfl, ?_⟩;rcases e with e | ⟨ah,off,arr,t,m,B,q8,q9,q⟩
    .have:xs= []:=To.1 (by omega);subst this;cases a with
     | none=>simp at z
     | some y=>obtain⟨F,o,S⟩:=y;exact⟨F,o,S,cap,rfl,R, .inl rfl,by simp [aY]⟩
    .subst m;refine⟨ah,off,_,cap,rfl,R, .inr ⟨rfl, ?_⟩,aY.nC (λb hb=>⟨k b hb,rfl⟩) ah sz rfl off xs q⟩;cases H
     .exact M i ah (.inl rfl) (by simpa using B)
     .exact k _ (by simpa using B)
  .simp at d
 case part i sz off n=>
  split at d
  .rename_i H D b xs hi;split at d
   .rename_i X;subst X;simp only [SR] at d;subst d;obtain⟨v',I,a,cap,q1,R,z,q4,e⟩:=nQ hs hi;simp only [al] at hv;obtain⟨U,L,Y,E,f,Z,e3,rfl,W⟩:=hv;rw [I] at f;simp only [SR] at f;subst f;simp only [Uf] at q1;obtain⟨rfl,rfl,rfl⟩:=q1;have Q:((xs.drop off).take n).length=n:=by simp only [T3,UK];omega
    simp only [ax,Q];have g:E=none↔U=none:=by
     rcases W with⟨_,rfl⟩ | ⟨_,p,_⟩ | ⟨V,o,rfl,rfl⟩
     .exact WX
     .exact p
     .simp
    cases b with
    | true=>
     left;have p:U=none:=z.2 rfl;subst p;rcases e with e | ⟨ah,off',arr,t,m,_⟩
     .have G:xs= []:=To.1 (by omega);subst G;subst e;simp only [T6] at Z;have e7:n=0:=by omega
      subst e7;rw [g.2 rfl];exact⟨rfl,by simp,by congr 1;omega⟩
     .cases m
    | false=>
     right;refine⟨rfl, ?_⟩;by_cases hn:n=0
     .subst hn;cases E with
      | none=>have:=g.1 rfl;simp [this] at z
      | some y=>obtain⟨F,o,S⟩:=y;exact⟨F,o,S,_,rfl,by omega, .inl (by simp),by simp [aY]⟩
     .rcases e with e | ⟨ah,off',arr,t,m,B,q8,q9,q⟩
      .omega
      .subst m;have ea:E=some ⟨ah,off'+off * D,none⟩:=by
        rcases W with⟨rfl,rfl⟩ | ⟨rfl,_⟩ | ⟨V,o,p,G⟩
        .simp
        .omega
        .simp only [SR,T5] at p;obtain⟨rfl,rfl,_⟩:=p;exact G
       subst ea;refine⟨ah,_,_,_,rfl,by omega, .inr ⟨rfl, ?_⟩,(aY.nC (λb hb=>⟨k b hb,rfl⟩) ah D rfl off' xs q).drop off |>.take n⟩;cases H
       .exact M i ah (.inr (.inl ⟨_,_,_,rfl⟩)) (by simpa using B)
       .exact k _ (by simpa using B)
   .simp at d
  .simp at d
 case ref i off=>
  simp only [al] at hv;obtain⟨V,f,rfl⟩:=hv;split at d
  .rename_i cs hi;obtain⟨l,hl,d⟩:=SU.1 d;simp only [SR] at d;subst d;obtain⟨b,arr,t',h1,C,J,K,h5,h6⟩:=Aa (s:=⟨λ_=>(none, .top),h⟩) hs hi;rw [h1] at f;simp only [SR,UP,T5] at f;obtain⟨rfl,_⟩:=f;simp only [ax];refine⟨b,off,rfl, .inr (M i b (.inr (.inr ⟨_,rfl⟩)) C), ?_⟩;have hT:=aR.lT hl K;have key:∀(l:List T) (vs:List Value) (off:Nat),aR w (AA c w O) l vs->(∀j v,vs[j]? =some v->w.cell? ⟨b,off+j,none⟩=some v)->aV w A' b off l:=by
    intro l;induction l with
    | nil=>intro vs off _ _;simp [aV]
    | cons x l ih=>rintro vs off ⟨v,r,rfl,h1,C⟩ hv;simp only [aV];refine⟨⟨v,by simpa using hv 0 v rfl,mono _ _ h1⟩,ih r (off+1) C λj u N=> ?_⟩;have:=hv (j+1) u (by simpa using N);rw [show off+1+j=off+ (j+1) by omega];exact this
   have:=(key l _ 0 hT λj v N=>by rw [TC];exact h6 j v N).drop off;rwa [TC] at this
  .rename_i l hi;simp only [SR] at d;subst d;obtain⟨b,h1,C,J,K⟩:=hs.ah i _ hi;rw [h1] at f;simp only [SR,UP,T5] at f;obtain⟨rfl,_⟩:=f;simp only [ax];refine⟨b,off,rfl, .inr (k b J), ?_⟩;have:=(aV.mono (λb hb=>⟨k b hb,rfl⟩) b J 0 l K).drop off;rwa [TC] at this
  .simp at d
def IB(v:AV)(i:Id):Prop:=r8 v i\/∃vs,v= .agg vs/\∃u∈vs,r8 u i
theorem Jt(hs:HS c w h ρ O)(e:∀b,AA c w O b->A' b):∀{vs:List AV} {xs:List T} {us:List Value},ay w (AA c w O) ρ vs us->kY h vs=some xs->
  (∀i ah,(∃u∈vs,r8 u i)->O i=some ah->A' ah)->aR w A' xs us
 | [],xs,us,hv,a,_=>by simp only [kY,SR] at a;subst a;simpa [ay,aR] using hv
 | v::vs,xs,us,hv,a,f=>by
  simp only [kY] at a;cases h1:du h v with
  | none=>simp [h1] at a
  | some x=>
   cases d:kY h vs with
   | none=>simp [h1,d] at a
   | some l=>simp only [h1,d,S9,SR] at a;subst a;simp only [ay] at hv;obtain⟨u,r,rfl,g,j⟩:=hv;exact⟨u,r,rfl,mN hs g h1 e (λi ah hi=>f i ah ⟨v,SW,hi⟩),Jt hs e j d (λi ah ⟨u,k,hi⟩=>f i ah ⟨u,SY _ k,hi⟩)⟩
theorem Rj{v:AV}{x:T}{u:Value}(hs:HS c w h ρ O)(hv:al w (AA c w O) ρ v u)(a:du h v=some x):u.oneCell'=true/\u.cells= #[u]:=
 (mN (A':=λ_=>True) hs hv a (λ_ _=>trivial) (λ_ _ _ _=>trivial)).pZ
theorem Rk{v:AV}{xs:List T}{u:Value}(hs:HS c w h ρ O)(hv:al w (AA c w O) ρ v u)(a:kX h v=some xs)(f:∀b,AA c w O b->A' b)
  (g:∀i ah,IB v i->O i=some ah->A' ah):aR w A' xs u.cells.toList/\∀y∈u.cells.toList,y.oneCell'=true/\y.cells= #[y]:=by
 have one:∀x,du h v=some x->xs= [x]->aR w A' xs u.cells.toList/\∀y∈u.cells.toList,y.oneCell'=true/\y.cells= #[y]:=by intro x d e;subst e;have hr:=mN hs hv d f (λi ah hi=>g i ah (.inl hi));have h1:=Rj hs hv d;rw [h1.2];exact⟨⟨u,[],rfl,hr,rfl⟩,by intro y hy;simp at hy;subst hy;exact h1⟩
 cases v
 case agg vs=>simp only [kX] at a;simp only [al] at hv;obtain⟨l,rfl,j,k⟩:=hv;refine⟨?_,by simpa [Value.cells] using k⟩;have:=Jt hs f j a (λi ah hi=>g i ah (.inr ⟨vs,rfl,hi⟩));simpa [Value.cells] using this
 all_goals
  unfold kX at a;obtain⟨x,d,e⟩:=SU.1 a;exact one x d (TE e).symm
def qD(p:Id×aa)(x:Option aa):Prop:=(∃sz b xs,p.2= .sl true sz b xs/\(x=some (.sl false sz b xs)\/x=some (.sl true sz b xs)))\/
 ∃l,p.2= .iC l/\((∃cs,x=some (.box cs)/\eS cs=some l)\/x=some (.iC l))
def gw(h:Id->Option aa)(us:aH):Prop:= ∀p∈us,qD p (h p.1)
theorem qD.again{i:Id}{b m:aa}{x:Option aa}(h1:qD (i,b) x)(p:qD (i,m) x):m=b/\qD (i,m) (some b):=by
 rcases h1 with⟨sz,bb,xs,f,d⟩ | ⟨l,f,d⟩
 .rcases p with⟨j,g,k,e,a⟩ | ⟨q,e,a⟩
  .simp only at f e;have:j=sz/\g=bb/\k=xs:=by
    rcases d with rfl | rfl <;> rcases a with a | a <;> simp at a <;> simp [a]
   obtain⟨rfl,rfl,rfl⟩:=this;exact⟨by rw [f,e], .inl ⟨_,_,_,e, .inr (by rw [f])⟩⟩
  .rcases d with rfl | rfl <;> rcases a with⟨cs,a,_⟩ | a <;> simp at a
 .rcases p with⟨j,g,k,e,a⟩ | ⟨q,e,a⟩
  .rcases a with rfl | rfl <;> rcases d with⟨cs,d,_⟩ | d <;> simp at d
  .simp only at f e;have:q=l:=by
    rcases d with⟨cs,rfl,d⟩ | rfl
    .rcases a with⟨o,a,n⟩ | a
     .simp only [SR,aa.box.injEq] at a;subst a;rw [d] at n;simpa using n.symm
     .simp at a
    .rcases a with⟨o,a,n⟩ | a
     .simp at a
     .simpa using a.symm
   subst this;exact⟨by rw [f,e], .inr ⟨_,e, .inr (by rw [f])⟩⟩
theorem HS.shut(hs:HS c w h ρ O){i:Id}{b:aa}(g:qD (i,b) (h i)):
  ∃a,Le w ρ O w ρ a/\HS c w (aB h i (some b)) ρ a/\(∀j,a j=O j\/a j=none)/\a i=none/\∀j,j≠i->a j=O j:=by
 have self:∀(f:Id->Option aa) (v:Option aa),f i=v->aB f i v=f:=by
  intro f v h;funext j;unfold aB;split
  .rename_i e;rw [e,h]
  .rfl
 have rel:∀{x:Option aa},HS c w (aB h i x) ρ (aB O i none)->∃a,Le w ρ O w ρ a/\HS c w (aB h i x) ρ a/\(∀j,a j=O j\/a j=none)/\a i=none/\∀j,j≠i->a j=O j:=by
  intro x n;exact⟨_,Le.release,n,λj=>by
   by_cases e:j=i
   .subst e;right;simp
   .left;exact ar _ _ e,by simp,λj e=>ar _ _ e⟩
 have same:h i=some b->O i=none->∃a,Le w ρ O w ρ a/\HS c w (aB h i (some b)) ρ a/\(∀j,a j=O j\/a j=none)/\a i=none/\∀j,j≠i->a j=O j:=by intro h1 k;exact⟨O,Le.refl,by rw [self _ _ h1];exact hs,λj=> .inl rfl,k,λ_ _=>rfl⟩
 rcases g with⟨sz,bb,xs,e,hi⟩ | ⟨l,e,hi⟩
 .simp only at e;subst e;rcases hi with hi | hi
  .exact rel (hs.freeze hi)
  .obtain⟨_,_,_,d⟩:=hs.ah i _ hi;exact same hi (d rfl)
 .simp only at e;subst e;rcases hi with⟨cs,hi,m⟩ | hi
  .exact rel (hs.NG hi m)
  .obtain⟨_,_,d,_⟩:=hs.ah i _ hi;exact same hi d
theorem tR(v:AV):gw h (gQ h v):=by
 intro p a;unfold gQ at a;split at a
 .split at a
  .rename_i i sz b xs hi;simp only [Tc] at a;subst a;exact .inl ⟨sz,b,xs,rfl, .inl hi⟩
  .cases a
 .split at a
  .rename_i i _ _ _ sz b xs hi;simp only [Tc] at a;subst a;exact .inl ⟨sz,b,xs,rfl, .inl hi⟩
  .cases a
 .split at a
  .rename_i i _ cs hi;split at a
   .rename_i l d;simp only [Tc] at a;subst a;exact .inr ⟨l,rfl, .inl ⟨cs,hi,d⟩⟩
   .cases a
  .cases a
 .cases a
theorem gw.append{us vs:aH}(h1:gw h us)(b:gw h vs):gw h (us++vs):=by
 intro p a;rcases Tm.1 a with a | a
 .exact h1 p a
 .exact b p a
theorem Bg:∀(vs:List AV),gw h (mB h vs)
 | []=>by intro p a;cases a
 | v::vs=>(tR v).append (Bg vs)
theorem Bi(v:AV):gw h (gG h v):=by
 unfold gG;split
 .exact Bg _
 .exact tR v
theorem zb{a:Type}(f:Id->Option a)(i:Id)(v:Option a)(h:f i=v):aB f i v=f:=by
 funext j;unfold aB;split
 .rename_i e;rw [e,h]
 .rfl
theorem HS.Gi:∀{us:aH} {h:Id->Option aa} {O:Id->Option Nat},HS c w h ρ O->gw h us->
  ∃O',Le w ρ O w ρ O'/\HS c w (aK h us) ρ O'/\(∀i,O' i=O i\/O' i=none)/\(∀p∈us,O' p.1=none)/\∀i,(∀p∈us,p.1≠i)->O' i=O i
 | [],h,O,hs,_=>⟨O,Le.refl,hs,λi=> .inl rfl,by simp,λ_ _=>rfl⟩
 | (i,b)::us,h,O,hs,d=>by
  have hi:=d (i,b) SW;obtain⟨z,n,o,q,r,t⟩:=hs.shut hi;have g:gw (aB h i (some b)) us:=by
   intro p a;have f:=d p (SY _ a);by_cases e:p.1=i
   .obtain⟨j,x⟩:=p;simp only at e f;subst e;rw [aD];exact(hi.again f).2
   .rw [ar _ _ e];exact f
  obtain⟨m,u,k2,l,v,y⟩:=HS.Gi o g;refine⟨m,n.trans u,k2,λj=> ?_,λp a=> ?_,λj k=> ?_⟩
  .rcases l j with e | e
   .rw [e];exact q j
   .exact .inr e
  .rcases Tg.1 a with rfl | a
   .rcases l i with e | e
    .rw [e];exact r
    .exact e
   .exact v p a
  .rw [y j (λp a=>k p (SY _ a)),t j (λe=>k (i,b) SW e.symm)]
theorem xO(hs:HS c w h ρ O){v:AV}{x:T}(a:du h v=some x){i:Id}{ah:Nat}(hi:r8 v i)(d:O i=some ah):∃p∈gQ h v,p.1=i:=by
 rcases hi with rfl | ⟨sz,off,n,rfl⟩ | ⟨off,rfl⟩
 .simp only [du] at a;split at a
  .rename_i f sz b xs hi;cases f
   .exact⟨(i, .sl true sz b xs),by simp [gQ,hi],rfl⟩
   .obtain⟨_,_,_,e⟩:=hs.ah i _ hi;rw [e rfl] at d;cases d
  .simp at a
 .simp only [du] at a;split at a
  .rename_i f g b xs hi;cases f
   .exact⟨(i, .sl true g b xs),by simp [gQ,hi],rfl⟩
   .obtain⟨_,_,_,e⟩:=hs.ah i _ hi;rw [e rfl] at d;cases d
  .simp at a
 .simp only [du] at a;split at a
  .rename_i cs hi;obtain⟨l,j,_⟩:=SU.1 a;exact⟨(i, .iC l),by simp [gQ,hi,j],rfl⟩
  .rename_i l hi;obtain⟨_,_,e,_⟩:=hs.ah i _ hi;rw [e] at d;cases d
  .simp at a
theorem Gm(hs:HS c w h ρ O):∀{vs:List AV} {xs:List T},kY h vs=some xs->∀{i:Id} {ah:Nat},(∃u∈vs,r8 u i)->O i=some ah->∃p∈mB h vs,p.1=i
 | [],_,_,i,ah,⟨u,hu,_⟩,_=>by cases hu
 | v::vs,xs,a,i,ah,⟨u,hu,hi⟩,f=>by
  simp only [kY] at a;cases h1:du h v with
  | none=>simp [h1] at a
  | some x=>
   cases d:kY h vs with
   | none=>simp [h1,d] at a
   | some l=>
    rcases Tg.1 hu with rfl | hu
    .obtain⟨p,b,e⟩:=xO hs h1 hi f;exact⟨p,Tf _ b,e⟩
    .obtain⟨p,b,e⟩:=Gm hs d ⟨u,hu,hi⟩ f;exact⟨p,Te _ b,e⟩
theorem NI(hs:HS c w h ρ O){v:AV}{xs:List T}(a:kX h v=some xs){i:Id}{ah:Nat}(hi:IB v i)(d:O i=some ah):∃p∈gG h v,p.1=i:=by
 rcases hi with hi | ⟨vs,rfl,hi⟩
 .have:∃x,du h v=some x:=by
   rcases hi with rfl | ⟨_,_,_,rfl⟩ | ⟨_,rfl⟩ <;> exact(SU.1 a).elim λx b=>⟨x,b.1⟩
  obtain⟨x,b⟩:=this;obtain⟨p,f,e⟩:=xO hs b hi d;refine⟨p, ?_,e⟩;rcases hi with rfl | ⟨_,_,_,rfl⟩ | ⟨_,rfl⟩ <;> exact f
 .exact Gm hs a hi d
theorem CP{v:AV}{xs:List T}{u:Value}{O':Id->Option Nat}(hs:HS c w h ρ O)(hv:al w (AA c w O) ρ v u)(g:kX h v=some xs)(le:Le w ρ O w ρ O')(k:∀i,O' i=O i\/O' i=none)
  (l:∀p∈gG h v,O' p.1=none):aR w (AA c w O') xs u.cells.toList/\∀y∈u.cells.toList,y.oneCell'=true/\y.cells= #[y]:=by
 refine Rk hs hv g (λb hb=>(le.A b hb).1) (λi ah hi f=> ?_);obtain⟨p,m,e⟩:=NI hs g hi f;refine⟨.inr (hs.own i ah f),hs.lt i ah f,λj a=> ?_⟩;rcases k j with d | d
 .rw [d] at a;have:=hs.inj j i ah a f;subst this;have:=l p m;rw [e,d,a] at this;cases this
 .rw [d] at a;cases a
theorem kf(hs:HS c w h ρ O){i:Id}{u:Value}(d:ρ i=some u):u.oneCell'=true/\u.cells= #[u]:=by
 cases hi:h i with
 | none=>
  cases hr:i.real with
  | true=>rw [(hs.ch i hr hi).1] at d;cases d
  | false=>
   cases i with
   | g i n=>exact hs.gone i n u d
   | _=>cases hr
 | some b=>
  have:=hs.ah i b hi;cases b with
  | box cs=>obtain⟨b,_,_,h1,_⟩:=this;rw [d] at h1;simp only [SR] at h1;subst h1;exact⟨rfl,rfl⟩
  | sl f sz b xs=>obtain⟨v,h1,⟨a,cap,e,_⟩,_⟩:=this;rw [d] at h1;simp only [SR] at h1;subst h1;subst e;exact⟨rfl,rfl⟩
  | iC l=>obtain⟨b,h1,_⟩:=this;rw [d] at h1;simp only [SR] at h1;subst h1;exact⟨rfl,rfl⟩
  | mp ag ks vk es=>obtain⟨b,_,_,h1,_⟩:=this;rw [d] at h1;simp only [SR] at h1;subst h1;exact⟨rfl,rfl⟩
  | arr cs=>obtain⟨b,_,_,h1,_⟩:=this;rw [d] at h1;simp only [SR] at h1;subst h1;exact⟨rfl,rfl⟩
  | rows b sz az rsz nx es=>obtain⟨a,cap,h1,_⟩:=this;rw [d] at h1;simp only [SR] at h1;subst h1;exact⟨rfl,rfl⟩
  | dead=>obtain⟨⟨v,h1,e⟩,_⟩:=this;rw [d] at h1;simp only [SR] at h1;subst h1;exact e
theorem Qc(hs:HS c w h ρ O){v:AV}{u:Value}(hv:al w A ρ v u)(a:pF v=true):u.oneCell'=true/\u.cells= #[u]:=by
 cases v <;> simp only [pF,Tv] at a <;> simp only [al] at hv
 case t=>exact hv.pZ
 case ref=>obtain⟨b,_,rfl⟩:=hv;exact⟨rfl,rfl⟩
 case el=>obtain⟨_,_,_,_,_,rfl⟩:=hv;exact⟨rfl,rfl⟩
 case own=>exact kf hs hv
 case part=>obtain⟨_,_,_,_,_,_,_,rfl,_⟩:=hv;exact⟨rfl,rfl⟩
 case row=>exact hs.gone _ _ _ hv
 case rel=>obtain⟨_,_,_,_,_,rfl⟩:=hv;exact⟨rfl,rfl⟩
 case fn=>obtain⟨_,_,rfl,_⟩:=hv;exact⟨rfl,rfl⟩
theorem wX(hs:HS c w h ρ O){v:AV}{u:Value}(hv:al w A ρ v u)(a:(gO v).all pF=true):ay w A ρ (gO v) u.cells.toList/\∀y∈u.cells.toList,y.oneCell'=true/\y.cells= #[y]:=by
 have one:gO v= [v]->ay w A ρ (gO v) u.cells.toList/\∀y∈u.cells.toList,y.oneCell'=true/\y.cells= #[y]:=by intro e;rw [e] at a⊢;simp only [Uu,Xk,Wm] at a;have h1:=Qc hs hv a;rw [h1.2];refine⟨by simp only [ay];exact⟨u,[],rfl,hv,rfl⟩, ?_⟩;intro y hy;simp at hy;subst hy;exact h1
 cases v
 case agg vs=>simp only [al] at hv;obtain⟨d,rfl,h1,b⟩:=hv;exact⟨by simpa [gO,Value.cells] using h1,by simpa [Value.cells] using b⟩
 all_goals exact one rfl
end
open Go
section
variable {P:Program} {w w':World} {A A':Nat->Prop} {c:Ctx} {ρ:Id->Option Value} {O:Id->Option Nat} {s:St} {cc:Option Bool} {h:Id->Option aa}
theorem tz{b:Nat}{arr:Array Value}{t:TypeId}{a:Nat×Nat}(hb:w.heap[b]? =some (.cells arr t a))(cs:Array Value)(p:Nat):(w.setRow b cs).cell? ⟨b,p,none⟩=cs[p]?:=by simp only [World.cell?,setRow_heap w b arr cs t a hb];rfl
theorem kH{b:Nat}{arr:Array Value}{t:TypeId}{a:Nat×Nat}(hb:w.heap[b]? =some (.cells arr t a))(p:Nat):w.cell? ⟨b,p,none⟩=arr[p]?:=by simp only [World.cell?,hb];rfl
theorem qg(w:World)(b:Nat)(cs:Array Value):(w.setRow b cs).heap.size=w.heap.size:=by simp [World.setRow]
theorem r9{d:Type}(off:Nat)(new a:List d)(e:off+new.length<=a.length)(p:Nat):(bS off new a)[p]? =if off<=p/\p < off+new.length then new[p - off]? else a[p]?:=by
 unfold bS;rw [TN];have h1:(a.take off).length=off:=by rw [T3];omega
 by_cases h:p < off
 .rw [Uj (by omega),if_neg (by omega),Vy,if_pos h]
 .rw [T4 (by omega),h1];by_cases b:p < off+new.length
  .rw [Uj (by omega),if_pos ⟨by omega,b⟩]
  .rw [T4 (by omega),if_neg (by omega),Vz];congr 1;omega
theorem qe{b:Type}(off:Nat)(new a:List b)(d:off+new.length<=a.length):(bS off new a).length=a.length:=by simp only [bS,Uh,T3,UK];omega
theorem aV.kS{ah:Nat}:∀{l:List T} {vs:List Value} {off:Nat},aR w A l vs->(∀j v,vs[j]? =some v->w.cell? ⟨ah,off+j,none⟩=some v)->aV w A ah off l
 | [],_,_,_,_=>by simp [aV]
 | x::l,vs,off,⟨v,r,e,h1,a⟩,hv=>by subst e;simp only [aV];refine⟨⟨v,by simpa using hv 0 v rfl,h1⟩,aV.kS a λj u b=> ?_⟩;have:=hv (j+1) u (by simpa using b);rw [show off+1+j=off+ (j+1) by omega];exact this
theorem aV.cells{ah:Nat}(a:∀b,A b->A' b/\w'.heap[b]? =w.heap[b]?):∀{cs:List T} {off:Nat},(∀j,j < cs.length->w'.cell? ⟨ah,off+j,none⟩=w.cell? ⟨ah,off+j,none⟩)->aV w A ah off cs->aV w' A' ah off cs
 | [],_,_,_=>by simp [aV]
 | x::cs,off,d,hr=>by
  simp only [aV] at hr⊢;obtain⟨⟨v,h1,e⟩,f⟩:=hr;refine⟨⟨v, ?_,ax.mono a x v e⟩,aV.cells a (λj g=> ?_) f⟩
  .have:=d 0 (by simp);simp only [VR] at this;rw [this];exact h1
  .have:=d (j+1) (by simp;omega);rw [show off+1+j=off+ (j+1) by omega];exact this
theorem aV.append{ah:Nat}:∀{a b:List T} {off:Nat},aV w A ah off a->aV w A ah (off+a.length) b->aV w A ah off (a++b)
 | [],b,off,_,h=>by simpa using h
 | x::a,b,off,h,d=>by
  simp only [aV,S7] at h⊢;refine⟨h.1,aV.append h.2 ?_⟩;have:off+1+a.length=off+ (x::a).length:=by simp;omega
  rw [this];exact d
theorem aV.take{ah:Nat}:∀{cs:List T} {off:Nat},aV w A ah off cs->∀n,aV w A ah off (cs.take n)
 | _,_,_,0=>by simp [aV]
 | [],_,_,n+1=>by simp [aV]
 | x::cs,off,h,n+1=>by simp only [aV,Ws] at h⊢;exact⟨h.1,aV.take h.2 n⟩
theorem aY.cells{ah sz:Nat}(a:∀b,A b->A' b/\w'.heap[b]? =w.heap[b]?):∀{xs:List (List T)} {off:Nat},(∀p,off<=p->p < off+xs.length * sz->w'.cell? ⟨ah,p,none⟩=w.cell? ⟨ah,p,none⟩)->aY w A ah sz off xs->aY w' A' ah sz off xs
 | [],_,_,_=>by simp [aY]
 | cs::xs,off,d,hr=>by
  simp only [aY] at hr⊢;have e:(cs::xs).length * sz=sz+xs.length * sz:=by simp [T2];omega
  refine⟨hr.1,aV.cells a (λj g=>d _ (by omega) (by rw [e];omega)) hr.2.1,aY.cells a (λp h1 f=>d p (by omega) (by rw [e];omega)) hr.2.2⟩
theorem aY.set{ah sz:Nat}(g:∀b,A b->A' b/\w'.heap[b]? =w.heap[b]?):∀{xs:List (List T)} {off k:Nat} {new:List T},aY w A ah sz off xs->k < xs.length->new.length=sz->aV w' A' ah (off+k * sz) new->
  (∀p,off<=p->p < off+xs.length * sz->¬(off+k * sz<=p/\p < off+k * sz+sz)->w'.cell? ⟨ah,p,none⟩=w.cell? ⟨ah,p,none⟩)->aY w' A' ah sz off (xs.set k new)
 | [],_,_,_,_,i,_,_,_=>by simp at i
 | cs::xs,off,0,new,hr,_,l,a,d=>by
  simp only [aY,W3] at hr⊢;have e:(cs::xs).length * sz=sz+xs.length * sz:=by simp [T2];omega
  exact⟨l,by simpa using a,aY.cells g (λp h1 m=>d p (by omega) (by rw [e];omega) (by omega)) hr.2.2⟩
 | cs::xs,off,k+1,new,hr,i,l,a,d=>by
  simp only [aY,VW] at hr⊢;have e:(cs::xs).length * sz=sz+xs.length * sz:=by simp [T2];omega
  have f:(k+1) * sz=sz+k * sz:=by rw [T2];omega
  refine⟨hr.1,aV.cells g (λj o=>d _ (by omega) (by rw [e];omega) (by rw [f];omega)) hr.2.1,aY.set g hr.2.2 (by simpa using i) l ?_ (λp h1 m n=>d p (by omega) (by rw [e];omega) (by rw [f];omega))⟩;rw [show off+sz+k * sz=off+ (k+1) * sz by rw [f];omega];exact a
theorem ay.bS{as l:List AV}{vs us:List Value}(h:ay w A ρ as vs)(a:ay w A ρ l us)(off:Nat):ay w A ρ (bS off l as) (bS off us vs):=by unfold Aev.bS;have:=a.length;rw [this];exact((h.take off).append a).append (h.drop _)
theorem aV.bS{ah base off:Nat}{cs l:List T}(h1:aV w A ah base (cs.take off))(a:aV w A ah (base+off) l)(b:aV w A ah (base+off+l.length) (cs.drop (off+l.length)))(d:off<=cs.length):aV w A ah base (bS off l cs):=by
 unfold Aev.bS;rw [TN];have lt:(cs.take off).length=off:=by rw [T3];omega
 exact aV.append h1 (aV.append (by rw [lt];exact a) (by rw [lt];exact b))
theorem yJ{t:TypeId}(e:bL P t=true){b off:Nat}{arr:Array Value}{tt:TypeId}{v:Value}(hb:w.heap[b]? =some (.cells arr tt (0,0)))(d:v.cells.size=P.cellsOf t)(a:off+v.cells.toList.length<=arr.size)
  (h1:∀u∈v.cells.toList,u.oneCell'=true):(storeVar t ⟨b,off,none⟩ v).run P w= .ok () (w.setRow b (bS off v.cells.toList arr.toList).toArray):=by
 unfold storeVar;simp only [Tp,jd e,Td,d,ne_eq,not_true_eq_false,if_false];have:=run_storeCells_at P b off tt v.cells.toList 0 arr w hb (by simpa using a) h1;simp only [VR] at this;rw [this];rfl
theorem Gk{v:AV}{p:Id×aa}(a:p∈gQ h v):p.1∈v.ids:=by
 unfold gQ at a;split at a
 .split at a
  .simp only [Tc] at a;subst a;simp [AV.ids]
  .cases a
 .split at a
  .simp only [Tc] at a;subst a;simp [AV.ids]
  .cases a
 .split at a
  .split at a
   .simp only [Tc] at a;subst a;simp [AV.ids]
   .cases a
  .cases a
 .cases a
theorem Gn:∀{vs:List AV} {p:Id×aa},p∈mB h vs->p.1∈bQ vs
 | [],p,a=>by cases a
 | v::vs,p,a=>by
  simp only [mB,Tm] at a;simp only [bQ,Tm];rcases a with a | a
  .exact .inl (Gk a)
  .exact .inr (Gn a)
theorem Gq{v:AV}{p:Id×aa}(a:p∈gG h v):p.1∈v.ids:=by
 unfold gG at a;split at a
 .simp only [AV.ids];exact Gn a
 .exact Gk a
theorem dK:∀{us:aH} {h:Id->Option aa} {i:Id},(∀p∈us,p.1≠i)->aK h us i=h i
 | [],_,_,_=>rfl
 | (j,b)::us,h,i,a=>by rw [cY,dK (λp d=>a p (SY _ d)),ar _ _ (λe=>a (j,b) SW e.symm)]
theorem u4:∀{us:aH} {h:Id->Option aa} {i:Id} {b:aa},(∀p∈us,p.1≠i)->aK (aB h i (some b)) us=aB (aK h us) i (some b)
 | [],_,_,_,_=>rfl
 | (j,x)::us,h,i,b,f=>by
  rw [cY,cY,<-u4 (λp g=>f p (SY _ g))];congr 1;funext k;have:j≠i:=λe=>f (j,x) SW e;by_cases a:k=j
  .subst a;rw [aD,ar _ _ this,aD]
  .by_cases d:k=i
   .subst d;rw [ar _ _ a,aD,aD]
   .rw [ar _ _ a,ar _ _ d,ar _ _ d,ar _ _ a]
theorem HS.rI{us:aH}(hs:HS c w h ρ O)(a:gw h us):
  ∃O',Le w ρ O w ρ O'/\HS c w (aK h us) ρ O'/\(∀i,O' i=O i\/O' i=none)/\(∀p∈us,O' p.1=none)/\∀i,(∀p∈us,p.1≠i)->O' i=O i:=HS.Gi hs a
theorem yN{b:Nat}{i:Id}(hi:O i=some b)(cs:Array Value):Le w ρ O (w.setRow b cs) ρ O:=
 Le.write hi rfl rfl rfl (qg w b cs) λk a=>setRow_other w b k cs a
theorem cK.put{t:TypeId}{sz k off b o L cap:Nat}{bb:Bool}{xs J:List (List T)}{l:List T}{d:Value}{Q:Nat->Prop}(R:cK w A sz bb xs (.slice (some ⟨b,o,none⟩) L cap) Q)(hy:bT k off l xs=some J)(S:bL P t=true)
  (K:l.length=P.cellsOf t) (B:aR w A l d.cells.toList) (M:∀u∈d.cells.toList,u.oneCell'=true/\u.cells= #[u]):
  ∃cs,Q b/\(storeVar t ⟨b,o+k * sz+off,none⟩ d).run P w= .ok () (w.setRow b cs)/\
   ∀A' z,(∀m,A m->A' m/\(w.setRow b cs).heap[m]? =w.heap[m]?)->z b->cK (w.setRow b cs) A' sz bb J (.slice (some ⟨b,o,none⟩) L cap) z:=by
 obtain⟨a',cap',q1,V,W,X,F⟩:=R;simp only [Uf] at q1;obtain⟨rfl,rfl,rfl⟩:=q1;unfold bT at hy;cases g:xs[k]? with
 | none=>simp [g] at hy
 | some cs=>
  simp only [g] at hy;split at hy
  .rename_i n;simp only [SR] at hy;subst hy;have D:k < xs.length:=(Ta.1 g).1;rcases F with F | ⟨ah,off',arr,I,G,Y,r,Z,y⟩
   .omega
   .simp only [SR,T5] at G;obtain⟨rfl,rfl,_⟩:=G;obtain⟨E,v⟩:=y.get g;have gl:=B.length;have N:(k+1) * sz<=cap * sz:=TK _ (by omega);have e2:(k+1) * sz=k * sz+sz:=T2 _ _;have e:o+k * sz+off+d.cells.toList.length<=arr.size:=by omega
    have H:=yJ (P:=P) S r (by rw [<-Tu,gl,K]) e (λu U=>(M u U).1);refine⟨_,Y,H,λA' z f C=> ?_⟩;have x:(xs.set k (bS off l cs)).length=xs.length:=by simp
    refine⟨some ⟨b,o,none⟩,cap,by rw [x],by rw [x];exact V,W,X, .inr ⟨b,o,_,I,rfl,C,setRow_heap w b arr _ I (0,0) r, ?_, ?_⟩⟩
    .have:=qe (o+k * sz+off) d.cells.toList arr.toList (by simpa using e);simp only [Uw];rw [this];simpa using Z
    .have a:∀p,(w.setRow b (bS (o+k * sz+off) d.cells.toList arr.toList).toArray).cell? ⟨b,p,none⟩=if o+k * sz+off<=p/\p < o+k * sz+off+d.cells.toList.length then d.cells.toList[p - (o+k * sz+off)]? else w.cell? ⟨b,p,none⟩:=by
      intro p;rw [tz r,VI,r9 _ _ _ (by simpa using e),kH r];simp
     have q:(bS off l cs).length=sz:=by rw [qe off l cs n,E]
     refine aY.set f y D q ?_ ?_
     .refine aV.bS (aV.cells f (λj i=> ?_) (v.take off)) ?_ ?_ (by omega)
      .have lt:(cs.take off).length=off:=by rw [T3];omega
       rw [lt] at i;rw [a,if_neg (by omega)]
      .refine aV.kS (aR.mono f _ _ B) (λj u i=> ?_);have hj':j < d.cells.toList.length:=(Ta.1 i).1;rw [a,if_pos (by omega)];rw [show o+k * sz+off+j - (o+k * sz+off)=j by omega];exact i
      .have:=v.drop (off+l.length);rw [show o+k * sz+off+l.length=o+k * sz+ (off+l.length) by omega];refine aV.cells f (λj i=> ?_) this;rw [a,if_neg (by omega)]
     .intro p h1 h2 h3;rw [a,if_neg (by omega)]
  .simp at hy
theorem xH{n:Nat}{p:Bool×List (List T)}:∀{es:List Row},bt n es=some p->∃k e,es[k]? =some e/\e.n=n/\e.own=some p/\∀q,dt n q es=es.set k {e with own:=q}
 | [],h=>by simp [bt] at h
 | e::es,h=>by
  unfold bt at h;by_cases c:e.n=n
  .rw [if_pos c] at h;exact⟨0,e,rfl,c,h,λq=>by simp [dt,c]⟩
  .rw [if_neg c] at h;obtain⟨k,a,h1,b,d,f⟩:=xH h;exact⟨k+1,a,by simpa using h1,b,d,λq=>by simp [dt,c,f]⟩
theorem ur{es:List Row}(h:(es.map (·.n)).Nodup){j k:Nat}{x y:Row}(f:es[j]? =some x)(g:es[k]? =some y)(e:x.n=y.n):j=k:=by
 have h1:(es.map (·.n))[j]? =some x.n:=by simp [f]
 have d:(es.map (·.n))[k]? =some x.n:=by simp [g,e]
 obtain⟨i,a⟩:=Ta.1 h1;obtain⟨l,b⟩:=Ta.1 d;exact(List.getElem_inj h).1 (a.trans b.symm)
theorem HP:∀{l:List Nat} {k x:Nat},l.Nodup->x∉l->(l.set k x).Nodup
 | [],_,_,_,_=>by simp
 | a::l,0,x,b,d=>by simp only [W3,Ud,Tg,not_or] at b d⊢;exact⟨d.2,b.2⟩
 | a::l,k+1,x,b,d=>by
  simp only [VW,Ud,Tg,not_or] at b d⊢;refine⟨λhm=> ?_,HP b.2 d.2⟩;rcases Ty hm with h | h
  .exact b.1 h
  .exact d.1 h.symm
theorem NZ{O':Id->Option Nat}(hs:HS c w h ρ O)(a:Id->Option Id)(d:∀k b,O' k=some b->∃x,a k=some x/\O x=some b)(e:∀k f x,a k=some x->a f=some x->k=f):∀i j b,O' i=some b->O' j=some b->i=j:=by intro i j b hi g;obtain⟨x,l,x2⟩:=d i b hi;obtain⟨y,m,n⟩:=d j b g;have:=hs.inj x y b x2 n;subst this;exact e i j x l m
theorem HS.PS{i j:Id}{b bb:Bool}{sz az rsz nx k ah:Nat}{es:List Row}{e:Row}{xs:List (List T)}{G:Value}{cs:Array Value}(hs:HS c w h ρ O)(hi:h i=some (.rows b sz az rsz nx es))(U:h j=some (.sl false rsz bb xs))(R:es[k]? =some e)(hv:ρ j=some G)
  {a:Option Addr} {cap:Nat} (hρ:ρ i=some (.slice a es.length cap)) {off:Nat} {arr:Array Value} {t:TypeId} (ha:a=some ⟨ah,off,none⟩) (hO:O i=some ah) (hb:w.heap[ah]? =some (.cells arr t (0,0))) (hfit:off+cap * sz<=arr.size)
  (X:cs= (bS (off+k * sz+az) [G] arr.toList).toArray):
  ∃ρ' O',Le w ρ O (w.setRow ah cs) ρ' O'/\HS c (w.setRow ah cs) (aB (aB h j (some .dead)) i (some (.rows b sz az rsz (nx+1) (es.set k ⟨nx,e.cs,some (bb,xs)⟩)))) ρ' O':=by
 obtain⟨a',cap',r1,r2,r3,⟨n1,W,n3,n4⟩,r5⟩:=hs.ah i _ hi;rw [hρ] at r1;simp only [SR,Uf] at r1;obtain⟨rfl, -,rfl⟩:=r1;have Z:k < es.length:=(Ta.1 R).1;have M:bZ w (AA c w O) ρ O i ah sz az rsz off es:=by
  rcases r5 with r5 | ⟨blk',off',arr',t',q1,q2,q3,q4,q5⟩
  .omega
  .rw [ha] at q1;simp only [SR,T5] at q1;obtain⟨rfl,rfl,_⟩:=q1;exact q5
 have hen:e.n < nx:=W e (SX R);have D:=hs.real (i:=i) (by rw [hi];simp);have L:=hs.real (i:=j) (by rw [U];simp);have Y:j≠i:=λe=>by rw [e,hi] at U;cases U
 have K:∀n,Id.g i n≠j:=λn=>aM L;obtain⟨v',s1,s2,_⟩:=hs.ah j _ U;rw [hv] at s1;cases s1;have F:=M.get R;have hcol:=F.2.1;have hbnd:(k+1) * sz<=cap * sz:=TK _ (by omega);have e2:(k+1) * sz=k * sz+sz:=T2 _ _;have I:off+k * sz+az+ [G].length<=arr.toList.length:=by simp;omega
 let ρ':Id->Option Value:=aB ρ (.g i nx) (some G);let O':Id->Option Nat:=λx=>if x= .g i nx then O j else if x=j then none else if x= .g i e.n then none else O x;have C:∀x,x≠ .g i nx->x≠j->x≠ .g i e.n->O' x=O x:=λx h1 E N=>by simp only [O',if_neg h1,if_neg E,if_neg N]
 have hOn:O' (.g i nx)=O j:=by simp only [O',if_true]
 have hOj:O' j=none:=by simp only [O',if_neg (K nx).symm,if_true]
 have hOe:O' (.g i e.n)=none:=by
  have h1:Id.g i e.n≠ .g i nx:=by intro h;cases h;omega
  simp only [O',if_neg h1,if_neg (K e.n),if_true]
 have H:∀x d,O' x=some d->(x= .g i nx/\O j=some d)\/(x≠ .g i nx/\x≠j/\x≠ .g i e.n/\O x=some d):=by
  intro x d l;simp only [O'] at l;split at l
  .exact .inl ⟨by assumption,l⟩
  .split at l
   .cases l
   .split at l
    .cases l
    .exact .inr ⟨by assumption,by assumption,by assumption,l⟩
 have le:Le w ρ O (w.setRow ah cs) ρ' O':=by
  refine⟨rfl,rfl,rfl,by rw [qg];exact Tl _,λx u l=> ?_,λd _ hn=>setRow_other w ah d _ λe=>hn i (e▸hO),λx d l=> ?_⟩
  .by_cases e:x= .g i nx
   .subst e;rw [n3 nx (Tl _)] at l;cases l
   .simp only [ρ'];rw [ar _ _ e];exact l
  .rcases H x d l with⟨_,h⟩ | ⟨_,_,_,h⟩
   .exact .inl ⟨j,h⟩
   .exact .inl ⟨x,h⟩
 have r:∀x d,x≠i->O x=some d->(w.setRow ah cs).heap[d]? =w.heap[d]?:=λx d l o=>setRow_other w ah d _ λe=>l (hs.inj x i ah (e▸o) hO);refine⟨ρ',O',le,hs.oF le (λx y l=> ?_) (λx hr l=> ?_) (λx n=> ?_) (λx n l=> ?_) (λx n u Q=> ?_) ?_ (λx d l=> ?_)⟩
 .by_cases q:x=i
  .subst q;rw [aD] at l;cases l;right;have S:(es.set k ⟨nx,e.cs,some (bb,xs)⟩).length=es.length:=by simp
   refine⟨a,cap, ?_,by rw [S];exact r2,r3,⟨?_,λf B=> ?_,λn hn=> ?_,λn d o=> ?_⟩, .inr ⟨ah,off,cs,t,ha, ?_,setRow_heap w ah arr _ t (0,0) hb, ?_, ?_⟩⟩
   .rw [S];simp only [ρ'];rw [ar _ _ (aM D).symm];exact hρ
   .rw [VS];refine HP n1 ?_;intro hm;obtain⟨f,B,e⟩:=Tw.1 hm;simp only at e;have:=W f B;omega
   .rcases Ty B with B | rfl
    .have:=W f B;omega
    .simp
   .have h1:Id.g x n≠ .g x nx:=by intro h;cases h;omega
    simp only [ρ'];rw [ar _ _ h1];exact n3 n (by omega)
   .rcases H _ d o with⟨h,_⟩ | ⟨h1,_,N,h4⟩
    .cases h;exact⟨_,List.mem_set Z _,rfl⟩
    .obtain⟨f,B,J⟩:=n4 n d h4;obtain⟨m,hm⟩:=Wa.1 B;have hmk:m≠k:=λe'=>by rw [e',R] at hm;cases hm;rw [J] at N;exact N rfl
     refine⟨f,Wa.2 ⟨m, ?_⟩,J⟩;rw [Ue,if_neg (WY hmk)];exact hm
   .rw [C x (aM D).symm (WY Y) (aM D).symm];exact hO
   .rw [X,Uw,qe _ _ _ I];simpa using hfit
   .have v:∀p,(w.setRow ah cs).cell? ⟨ah,p,none⟩=if off+k * sz+az<=p/\p < off+k * sz+az+1 then some G else w.cell? ⟨ah,p,none⟩:=by
     intro p;rw [tz hb,X,VI,r9 _ _ _ I,kH hb];by_cases V:off+k * sz+az<=p/\p < off+k * sz+az+1
     .rw [if_pos (by simpa using V),if_pos V,show p - (off+k * sz+az)=0 by omega];rfl
     .rw [if_neg (by simpa using V),if_neg V];simp
    refine bZ.set (λd o=>le.A d o) Z (λp p1 p2 p3=>by rw [v,if_neg (by omega)]) (λm f hm B=> ?_) ?_ M
    .have J:f.n≠e.n:=λe'=>hm (ur n1 B R e');have hfx:f.n≠nx:=by have:=W f (SX B);omega
     have h1:Id.g x f.n≠ .g x nx:=by intro h;simp only [Id.g.injEq] at h;exact hfx h.2
     have E:Id.g x f.n≠ .g x e.n:=by intro h;simp only [Id.g.injEq] at h;exact J h.2
     refine⟨by simp only [ρ'];exact ar _ _ h1,C _ h1 (K _) E,λd o=>r _ d (aM D) o⟩
    .refine⟨F.1,hcol,λm y hm hy=> ?_,G,by rw [v,if_pos (by omega)],by simp only [ρ'];exact aD _ _ _, ?_⟩
     .obtain⟨u,g1,g2⟩:=F.2.2.1 m y hm hy;have hml:m < sz:=by have:=(Ta.1 hy).1;rw [F.1] at this;exact this
      exact⟨u,by rw [v,if_neg (by omega)];exact g1,ax.mono (λd o=>le.A d o) y u g2⟩
     .simp only;refine cK.mono (λd o=>le.A d o) (λd o=> ?_) s2;simp only [Tv,if_false] at o;rw [hOn];exact⟨o,r j d Y o⟩
  .rw [ar _ _ q] at l;by_cases e3:x=j
   .subst e3;rw [aD] at l;cases l;exact .inr ⟨⟨G,by simp only [ρ'];rw [ar _ _ (K nx).symm];exact hv,kf hs hv⟩,hOj⟩
   .rw [ar _ _ e3] at l;have hrx:=hs.real (i:=x) (by rw [l];simp);refine .inl ⟨l,C x (aM hrx).symm e3 (aM hrx).symm,λd o=>r x d q o,λn=> ?_⟩;have h1:∀m,Id.g x n≠ .g i m:=by intro m h;cases h;exact q rfl
    exact⟨by simp only [ρ'];exact ar _ _ (h1 _),C _ (h1 _) (aM L) (h1 _),λd o=>r _ d (aM D) o⟩
 .by_cases q:x=i
  .subst q;rw [aD] at l;cases l
  .rw [ar _ _ q] at l;by_cases e3:x=j
   .subst e3;rw [aD] at l;cases l
   .rw [ar _ _ e3] at l;have:=hs.ch x hr l;refine⟨?_, ?_⟩
    .simp only [ρ'];rw [ar _ _ (aM hr).symm];exact this.1
    .rw [C x (aM hr).symm e3 (aM hr).symm];exact this.2
 .rw [ar _ _ (aM D),ar _ _ (aM L)];exact hs.dH x n
 .by_cases q:x=i
  .subst q;rw [aD] at l;cases l
  .rw [ar _ _ q] at l;by_cases e3:x=j
   .subst e3;rw [aD] at l;cases l
   .rw [ar _ _ e3] at l;have:=hs.fq x n l;have h1:∀m,Id.g x n≠ .g i m:=by intro m h;cases h;exact q rfl
    refine⟨?_, ?_⟩
    .simp only [ρ'];rw [ar _ _ (h1 _)];exact this.1
    .rw [C _ (h1 _) (aM L) (h1 _)];exact this.2
 .by_cases q:Id.g x n= .g i nx
  .rw [q] at Q;simp only [ρ',aD,SR] at Q;subst Q;exact kf hs hv
  .simp only [ρ'] at Q;rw [ar _ _ q] at Q;exact hs.gone x n u Q
 .refine NZ hs (λx=>if x= .g i nx then some j else if x=j then none else some x) (λx d l=> ?_) (λx y z l hy=> ?_)
  .rcases H x d l with⟨h1,E⟩ | ⟨h1,E,_,N⟩
   .exact⟨j,by rw [if_pos h1],E⟩
   .exact⟨x,by rw [if_neg h1,if_neg E],N⟩
  .split at l <;> split at hy
   .rename_i h1 E;rw [h1,E]
   .split at hy
    .cases hy
    .simp only [SR] at l hy;subst l;rename_i h;exact(h hy).elim
   .split at l
    .cases l
    .simp only [SR] at l hy;subst hy;rename_i h;exact(h l).elim
   .split at l
    .cases l
    .split at hy
     .cases hy
     .simp only [SR] at l hy;rw [l,hy]
 .rw [qg];rcases H x d l with⟨_,h⟩ | ⟨_,_,_,h⟩
  .exact hs.lt _ d h
  .exact hs.lt _ d h
theorem HS.SJ{i:Id}{n r:Nat}{b:Bool}{sz az rsz nx:Nat}{es:List Row}{p:Bool×List (List T)}{F:List (List T)}{v:Value}{cs:Array Value}(hs:HS c w h ρ O)(hi:h i=some (.rows b sz az rsz nx es))(hf:bt n es=some p)(M:O (.g i n)=some r)
  (hv:ρ (.g i n)=some v) (R:cK (w.setRow r cs) (AA c (w.setRow r cs) O) rsz p.1 F v (λd=>O (.g i n)=some d)):
  HS c (w.setRow r cs) (aB h i (some (.rows b sz az rsz nx (dt n (some (p.1,F)) es)))) ρ O:=by
 have le:Le w ρ O (w.setRow r cs) ρ O:=yN M _;have H:=hs.real (i:=i) (by rw [hi];simp);have o:∀x d,x≠ .g i n->O x=some d->(w.setRow r cs).heap[d]? =w.heap[d]?:=λx d j l=>setRow_other w r d _ λe=>j (hs.inj x _ r (e▸l) M);obtain⟨k,e,C,G,heo,K⟩:=xH hf;refine hs.oF le (λx y j=> ?_) (λx hr j=> ?_) (λx m=> ?_) (λx m j=> ?_) hs.gone hs.inj (λx d l=>by rw [qg];exact hs.lt x d l)
 .by_cases z:x=i
  .subst z;rw [aD] at j;cases j;right;obtain⟨a,cap,r1,r2,r3,⟨S,U,n3,n4⟩,L⟩:=hs.ah x _ hi;rw [K];have D:(es.set k {e with own:=some (p.1,F)}).length=es.length:=by simp
   have E:(es.set k {e with own:=some (p.1,F)}).map (·.n)=es.map (·.n):=by
    rw [VS];refine Vo λm=> ?_;rw [Ue];split
    .rename_i h;subst h;have:=(Ta.1 C).1;rw [if_pos (by simpa using this)];simp [C]
    .rfl
   refine⟨a,cap,by rw [D];exact r1,by rw [D];exact r2,r3,⟨by rw [E];exact S,λf q=> ?_,n3,λm d l=> ?_⟩, ?_⟩
   .rcases Ty q with q | rfl
    .exact U f q
    .exact U e (SX C)
   .obtain⟨f,q,N⟩:=n4 m d l;have:m∈(es.set k {e with own:=some (p.1,F)}).map (·.n):=by rw [E];exact Tw.2 ⟨f,q,N⟩
    obtain⟨f',h1,h2⟩:=Tw.1 this;exact⟨f',h1,h2⟩
   .rcases L with L | ⟨ah,off,arr,t,q1,V,q3,q4,W⟩
    .exact .inl L
    .have B:(w.setRow r cs).heap[ah]? =w.heap[ah]?:=o x ah (aM H).symm V;refine .inr ⟨ah,off,arr,t,q1,V,by rw [B];exact q3,q4, ?_⟩;have J:=W.get C;refine bZ.set (λd l=>le.A d l) (Ta.1 C).1 (λ_ _ _ _=>mY B) (λm f hm q=>⟨rfl,rfl,λd l=>o _ d (λh=> ?_) l⟩) ?_ W
     .simp only [Id.g.injEq] at h;exact hm (ur S q C (by rw [h.2,G]))
     .obtain⟨Y,Z,a3,u,a4,I,a7⟩:=J;refine⟨Y,Z,λm y hm hy=> ?_,u,by rw [mY B];exact a4,I, ?_⟩
      .obtain⟨X,g1,g2⟩:=a3 m y hm hy;exact⟨X,by rw [mY B];exact g1,ax.mono (λd l=>le.A d l) y X g2⟩
      .simp only;rw [G] at I⊢;rw [I] at hv;cases hv;exact R
  .rw [ar _ _ z] at j;have Q:=hs.real (i:=x) (by rw [j];simp);refine .inl ⟨j,rfl,λd l=>o x d (aM Q).symm l,λm=>⟨rfl,rfl,λd l=>o _ d (λh=> ?_) l⟩⟩;simp only [Id.g.injEq] at h;exact z h.1
 .by_cases z:x=i
  .subst z;rw [aD] at j;cases j
  .rw [ar _ _ z] at j;exact hs.ch x hr j
 .rw [ar _ _ (aM H)];exact hs.dH x m
 .by_cases z:x=i
  .subst z;rw [aD] at j;cases j
  .rw [ar _ _ z] at j;exact hs.fq x m j
theorem Rt{R:Type}{t:TypeId}{a v:AV}{va y:Value}{K:aH->Option R}{r:R}(hs:HS c w s.h ρ O)(J:al w (AA c w O) ρ a va)(hx:al w (AA c w O) ρ v y)(f:jh P s t a v K=some r):
  ∃us w' ρ' O',K us=some r/\(Instr.storeAt t va y).run P w= .ok () w'/\Le w ρ O w' ρ' O'/\HS c w' (aK s.h us) ρ' O':=by
 unfold jh at f;cases Z:bL P t
 .simp [Z] at f
 simp only [Z,cond_true] at f;split at f
 .rename_i i off;split at f
  .rename_i cs hi;split at f
   .rename_i q;obtain⟨Q,I,c3⟩:=q;obtain⟨b,arr,t',h1,h2,h3,h4,h5,h6⟩:=Aa hs hi;simp only [al] at J;obtain⟨H,x,rfl⟩:=J;rw [h1] at x;simp only [SR,UP,T5] at x;obtain⟨rfl,_⟩:=x;obtain⟨S,X⟩:=wX hs hx I;have gl:=S.length;have hl:=h4.length;have D:off+y.cells.toList.length<=arr.size:=by rw [gl];simp only [Tu] at hl;omega
    have B:=yJ (P:=P) Z h3 (by rw [<-Tu,gl,Q]) D (λu hu=>(X u hu).1);have le:Le w ρ O (w.setRow b (bS off y.cells.toList arr.toList).toArray) ρ O:=yN h2 _;refine⟨_,_,ρ,O,f,by simpa [Instr.storeAt,Instr.sureAddr] using B,le, ?_⟩;rw [dZ];refine hs.write h2 le (λk f=>setRow_other w b k _ f) _ ?_ (by rw [hi];simp);refine⟨b,_,t',h1,h2,setRow_heap w b arr _ t' (0,0) h3, ?_, ?_⟩
    .have m:∀(as:List AV) (vs:List Value),ay w (AA c w O) ρ as vs->ay _ _ ρ as vs:=λas vs hr=>ay.mono (λb hb=>le.A b hb) le.eF as vs hr;exact ay.bS (m _ _ h4) (m _ _ S) off
    .intro u hu;simp only [bS,Tm] at hu;rcases hu with(hu | hu) | hu
     .exact h5 u (Uy hu)
     .exact X u hu
     .exact h5 u (UL hu)
   .simp at f
  .simp at f
 .rename_i i sz k off;split at f
  .rename_i g bb xs hi;obtain⟨l,hsn,f⟩:=SU.1 f;split at f
   .rename_i q;obtain⟨rfl,Q,I⟩:=q;replace f:=aL f (.inl rfl);obtain⟨ys,hy,f⟩:=f;have E:∀p∈gG s.h v,p.1≠i:=by
     intro p Y e;have:=Gq Y;rw [e] at this;simp only [List.contains_eq_mem,decide_eq_false_iff_not] at I;exact I this
    obtain⟨G,cU,N,o1,o2,o3⟩:=HS.rI hs (Bi (h:=s.h) v);obtain⟨S,X⟩:=CP hs hx hsn cU o1 o2;have M:aK s.h (gG s.h v) i=some (.sl false g bb xs):=by rw [dK E];exact hi
    obtain⟨vv,q0,a',cap',q1,q2,q3,q4,q5⟩:=nQ N M;simp only [al] at J;obtain⟨b,o,L,cap,x,rfl⟩:=J;rw [q0] at x;simp only [SR] at x;subst x;simp only [Uf] at q1;obtain⟨rfl,rfl,rfl⟩:=q1;unfold bT at hy;cases W:xs[k]? with
    | none=>simp [W] at hy
    | some cs=>
     simp only [W] at hy;split at hy
     .rename_i hfit0;simp only [SR] at hy;subst hy;have hlt:k < xs.length:=(Ta.1 W).1;rcases q5 with q5 | ⟨ah,off',arr,t',q6,q7,q8,q9,q10⟩
      .omega
      .simp only [SR,T5] at q6;obtain⟨rfl,rfl,_⟩:=q6;simp only [Tv,if_false] at q7;obtain⟨lcs,hcs⟩:=q10.get W;have gl:=S.length;have hbnd:(k+1) * g<=cap * g:=TK _ (by omega);have e2:(k+1) * g=k * g+g:=T2 _ _;have D:o+k * g+off+y.cells.toList.length<=arr.size:=by omega
       have B:=yJ (P:=P) Z q8 (by rw [<-Tu,gl,Q]) D (λu hu=>(X u hu).1);have F:Le w ρ G (w.setRow b (bS (o+k * g+off) y.cells.toList arr.toList).toArray) ρ G:=yN q7 _;refine⟨_,_,ρ,G,f,by simpa [Instr.storeAt,Instr.sureAddr] using B,cU.trans F, ?_⟩;rw [cY,u4 E];refine N.write q7 F (λk f=>setRow_other w b k _ f) _ ?_ (by rw [M];simp);refine⟨_,q0, ?_,by simp⟩;have hl2:(xs.set k (bS off l cs)).length=xs.length:=by simp
       refine⟨some ⟨b,o,none⟩,cap,by rw [hl2],by rw [hl2];exact q2,q3,q4, .inr ⟨b,o,_,t',rfl,by simpa using q7,setRow_heap w b arr _ t' (0,0) q8, ?_, ?_⟩⟩
       .have:=qe (o+k * g+off) y.cells.toList arr.toList (by simpa using D);simp only [Uw];rw [this];simpa using q9
       .have z:∀p,(w.setRow b (bS (o+k * g+off) y.cells.toList arr.toList).toArray).cell? ⟨b,p,none⟩=if o+k * g+off<=p/\p < o+k * g+off+y.cells.toList.length then y.cells.toList[p - (o+k * g+off)]? else w.cell? ⟨b,p,none⟩:=by
         intro p;rw [tz q8,VI,r9 _ _ _ (by simpa using D),kH q8];simp
        have V:∀H,AA c w G H->AA c (w.setRow b (bS (o+k * g+off) y.cells.toList arr.toList).toArray) G H/\(w.setRow b (bS (o+k * g+off) y.cells.toList arr.toList).toArray).heap[H]? =w.heap[H]?:=λH hb'=>F.A H hb';have lrepl:(bS off l cs).length=g:=by rw [qe off l cs hfit0,lcs]
        refine aY.set V q10 hlt lrepl ?_ ?_
        .refine aV.bS (aV.cells V (λj T=> ?_) (hcs.take off)) ?_ ?_ (by omega)
         .have lt:(cs.take off).length=off:=by rw [T3];omega
          rw [lt] at T;rw [z,if_neg (by omega)]
         .refine aV.kS (aR.mono V _ _ S) (λj u T=> ?_);have hj':j < y.cells.toList.length:=(Ta.1 T).1;rw [z,if_pos (by omega)];rw [show o+k * g+off+j - (o+k * g+off)=j by omega];exact T
         .have:=hcs.drop (off+l.length);rw [show o+k * g+off+l.length=o+k * g+ (off+l.length) by omega];refine aV.cells V (λj T=> ?_) this;rw [z,if_neg (by omega)]
        .intro p h1 h2 h3;rw [z,if_neg (by omega)]
     .simp at hy
   .simp at f
  .rename_i bb g az rsz nx es hi;split at f
   .rename_i j;split at f
    .rename_i rsz' H xs T;split at f
     .rename_i q;obtain⟨rfl,rfl,rfl,Q,I⟩:=q;replace f:=aL f (.inl rfl);obtain⟨e,he,f⟩:=f;obtain⟨a,cap,r1,r2,r3,r4,r5⟩:=hs.ah i _ hi;simp only [al] at J hx;obtain⟨b,o,L,cap',x,rfl⟩:=J;have e1':=x;rw [r1] at x;simp only [SR,Uf] at x;obtain⟨rfl,rfl,rfl⟩:=x;have hlt:k < es.length:=(Ta.1 he).1;rcases r5 with r5 | ⟨ah,off',arr,t',q1,q2,q3,q4,q5⟩
      .omega
      .simp only [SR,T5] at q1;obtain⟨rfl,rfl,_⟩:=q1;have U:=kf hs hx;have hcol:=(q5.get he).2.1;have hbnd:(k+1) * g<=cap * g:=TK _ (by omega);have e2:(k+1) * g=k * g+g:=T2 _ _;have C:y.cells.toList= [y]:=by rw [U.2]
       have B:=yJ (P:=P) (w:=w) (v:=y) Z q3 (by rw [U.2,Q];rfl) (off:=o+k * g+off) (by rw [C];simp;omega) (λu hu=>by rw [C,Tc] at hu;subst hu;exact U.1);rw [C] at B;obtain⟨ρ',O',le,hs'⟩:=hs.PS hi T he hx r1 rfl q2 q3 q4 rfl;refine⟨_,_,ρ',O',f,by simpa [Instr.storeAt,Instr.sureAddr] using B,le, ?_⟩;rw [cY,dZ];exact hs'
     .simp at f
    .simp at f
   .simp at f
  .simp at f
 .rename_i i sz n k off;split at f
  .rename_i b g az rsz nx es hi;replace f:=aL f (.inl rfl);obtain⟨p,Y,f⟩:=f;replace f:=SU.1 f;obtain⟨l,hsn,f⟩:=f;split at f
   .rename_i q;obtain⟨rfl,Q,I⟩:=q;replace f:=aL f (.inl rfl);obtain⟨ys,hy,f⟩:=f;have E:∀p∈gG s.h v,p.1≠i:=by
     intro p Y e;have:=Gq Y;rw [e] at this;simp only [List.contains_eq_mem,decide_eq_false_iff_not] at I;exact I this
    obtain⟨G,cU,N,o1,o2,o3⟩:=HS.rI hs (Bi (h:=s.h) v);obtain⟨S,X⟩:=CP hs hx hsn cU o1 o2;have M:aK s.h (gG s.h v) i=some (.rows b g az rsz nx es):=by rw [dK E];exact hi
    obtain⟨vv,q0,q1⟩:=yH (s:=⟨s.t,aK s.h (gG s.h v)⟩) N M Y;simp only [al] at J;obtain⟨bk,o,L,cap,x,rfl⟩:=J;rw [q0] at x;simp only [SR] at x;subst x;obtain⟨cs,hOb,B,hsl⟩:=q1.put (P:=P) hy Z Q S X;have F:Le w ρ G (w.setRow bk cs) ρ G:=yN hOb _;refine⟨_,_,ρ,G,f,by simpa [Instr.storeAt,Instr.sureAddr] using B,cU.trans F, ?_⟩;rw [cY,u4 E];exact N.SJ M Y hOb q0 (hsl _ _ (λd hd=>F.A d hd) hOb)
   .simp at f
  .simp at f
 .simp at f
theorem IM(t:TypeId)(cells:Array Value):(newRow t cells).run P w= .ok ⟨w.heap.size,0,none⟩ (w.alloc (.cells cells t)):=by simp [newRow]
theorem kN(o:Obj):(w.alloc o).heap[w.heap.size]? =some o:=by show(w.heap.push o)[w.heap.size]? =some o;simp
theorem HS.HJ{i:Id}(hs:HS c w h ρ O)(hi:h i=none){cs:List AV}{vs:List Value}(t:TypeId)(hv:ay w (AA c w O) ρ cs vs)(h1:∀u∈vs,u.oneCell'=true/\u.cells= #[u])(hrl:i.real=true:=by rfl):
  Le w ρ O (w.alloc (.cells vs.toArray t)) (aB ρ i (some (.pointer (some ⟨w.heap.size,0,none⟩)))) (aB O i (some w.heap.size))/\
  HS c (w.alloc (.cells vs.toArray t)) (aB h i (some (.box cs))) (aB ρ i (some (.pointer (some ⟨w.heap.size,0,none⟩)))) (aB O i (some w.heap.size)):=by
 have le:=Le.alloc hs hrl hi (.cells vs.toArray t) (.pointer (some ⟨w.heap.size,0,none⟩)) (some w.heap.size) (.inr rfl);refine⟨le,hs.alloc hrl hi _ _ _ (.inr rfl) _ ⟨w.heap.size,vs.toArray,t,by simp,by simp,kN _, ?_,h1⟩⟩;exact ay.mono (λb hb=>le.A b hb) le.eF _ _ hv
theorem HS.O8{i:Id}(hs:HS c w h ρ O)(hi:h i=none){cs:List AV}{arr:Array Value}(t:TypeId)(hv:ay w (AA c w O) ρ cs arr.toList)(h1:∀u∈arr.toList,u.oneCell'=true/\u.cells= #[u])(hrl:i.real=true:=by rfl):
  Le w ρ O (w.alloc (.cells arr t)) (aB ρ i (some (.slice (some ⟨w.heap.size,0,none⟩) 1 1))) (aB O i (some w.heap.size))/\
  HS c (w.alloc (.cells arr t)) (aB h i (some (.arr cs))) (aB ρ i (some (.slice (some ⟨w.heap.size,0,none⟩) 1 1))) (aB O i (some w.heap.size)):=by
 have le:=Le.alloc hs hrl hi (.cells arr t) (.slice (some ⟨w.heap.size,0,none⟩) 1 1) (some w.heap.size) (.inr rfl);refine⟨le,hs.alloc hrl hi _ _ _ (.inr rfl) _ ⟨w.heap.size,arr,t,by simp,by simp,kN _, ?_,h1⟩⟩;exact ay.mono (λb hb=>le.A b hb) le.eF _ _ hv
theorem HZ{u:Value}{x:T}(e:oR u=some x):ax w A x u:=by
 cases u <;> simp only [oR,SR,reduceCtorEq] at e
 case slice a l b=>split at e <;> simp_all;subst e;simp [ax]
 case pointer a=>split at e <;> simp_all;subst e;simp [ax]
 case map a=>split at e <;> simp_all;subst e;simp [ax]
 all_goals (subst e;simp [ax])
theorem oS:∀{us:List Value} {l:List T},lS us=some l->aR w A l us
 | [],l,e=>by simp only [lS,SR] at e;subst e;rfl
 | u::us,l,e=>by simp only [lS] at e;obtain⟨x,h1,e⟩:=SU.1 e;obtain⟨b,a,e⟩:=SU.1 e;simp only [SR] at e;subst e;exact⟨u,us,rfl,HZ h1,oS a⟩
theorem nX{t:TypeId}{l:List T}(e:jF P t=some l):∃i z,P.info? t=some i/\i.zero=some z/\lS z.cells.toList=some l:=by
 unfold jF at e;split at e
 .rename_i i hi;split at e
  .rename_i z hz;exact⟨i,z,hi,hz,e⟩
  .simp at e
 .simp at e
theorem Nx(off:Nat)(v cells:Array Value)(d:off+v.size<=cells.size):(v.zipIdx.foldl (λcs (x:Value×Nat)=>cs.setIfInBounds (off+x.2) x.1) cells).toList=bS off v.toList cells.toList:=by
 obtain⟨f,b⟩:=Go.Great.foldl_set off v.toList 0 cells;have e:v.zipIdx.foldl (λcs (x:Value×Nat)=>cs.setIfInBounds (off+x.2) x.1) cells= (v.toList.zipIdx 0).foldl (λcs (x:Value×Nat)=>cs.setIfInBounds (off+x.2) x.1) cells:=by rw [<-Array.foldl_toList,Array.toList_zipIdx]
 rw [e];apply Vo;intro p;rw [T1,b p,r9 off v.toList cells.toList (by simpa using d)];simp only [VR,Tu,T1];by_cases a:off<=p/\p < off+v.size
 .rw [if_pos ⟨a.1,a.2,by omega⟩,if_pos a]
 .rw [if_neg (by omega),if_neg a]
inductive te (w:World) (A:Nat->Prop) (ρ:Id->Option Value) (place:Nat->Option (Nat×Nat)):List (Nat×List AV)->List (Nat×Value)->Prop
 | nil:te w A ρ place [] []
 | cons {off:Nat} {l:List AV} {f:Nat} {v:Value} {ls:List (Nat×List AV)} {vs:List (Nat×Value)} (hp:place f=some (off,l.length)) (hr:ay w A ρ l v.cells.toList) (h1:∀u∈v.cells.toList,u.oneCell'=true/\u.cells= #[u])
   (rest:te w A ρ place ls vs):te w A ρ place ((off,l)::ls) ((f,v)::vs)
theorem Ga{d:Nat->Option (Nat×Nat)}:∀{j:List (Nat×List AV)} {vs:List (Nat×Value)} {i b:List AV} {cells:Array Value},te w A ρ d j vs->tY j i=some b->ay w A ρ i cells.toList->(∀u∈cells.toList,u.oneCell'=true/\u.cells= #[u])->
  ∃r,Instr.fill d cells vs=some r/\ay w A ρ b r.toList/\∀u∈r.toList,u.oneCell'=true/\u.cells= #[u]
 | [],_,i,b,cells, .nil,a,hz,h1=>by simp only [tY,SR] at a;subst a;exact⟨cells,rfl,hz,h1⟩
 | (off,l)::j,(f,v)::vs,i,b,cells, .cons t hr n m,a,hz,h1=>by
  simp only [tY] at a;split at a
  .rename_i q;have k:=hr.length;have y:=hz.length;simp only [Tu] at k y;have g:off+v.cells.size<=cells.size:=by omega
   have e:=Nx off v.cells cells g;obtain⟨r,o,p,e3⟩:=Ga (cells:=v.cells.zipIdx.foldl (λcs (x:Value×Nat)=>cs.setIfInBounds (off+x.2) x.1) cells) m a (by
    rw [e];unfold bS;rw [show v.cells.toList.length=l.length by simpa using k];exact((hz.take off).append hr).append (hz.drop _)) (by
    intro u hu;rw [e] at hu;simp only [bS,Tm] at hu;rcases hu with(hu | hu) | hu
    .exact h1 u (Uy hu)
    .exact n u hu
    .exact h1 u (UL hu))
   refine⟨r, ?_,p,e3⟩;unfold Instr.fill;simp only [t];rw [if_neg (by simp [k];omega)];exact o
  .simp at a
theorem Ie{t:TypeId}{f:Nat}{p:Nat×TypeId}(e:uA P t f=some p)(j:p6 P t=true):
  bL P p.2=true/\((∃a,P.underlying t=some (.struct a)/\(a.toList.map λx=>(x.offset,P.cellsOf x.type))[f]? =some (p.1,P.cellsOf p.2))\/
   ∃n e,P.underlying t=some (.array n e)/\p= (f * P.cellsOf e,e)):=by
 unfold uA at e;split at e
 .rename_i q d;simp only [SR] at e;subst e;obtain⟨a,x,h1,b,g,i⟩:=A9 d;refine⟨i, .inl ⟨a,h1, ?_⟩⟩;rw [TM,T1,b];simp [g]
 .split at e
  .rename_i n u d;simp only [SR] at e;subst e;obtain⟨h1,b⟩:=DS d;exact⟨b, .inr ⟨n,u,h1,rfl⟩⟩
  .simp at e
theorem Ig{a:Act}{g:Option Gs}{t:TypeId}(hs:HS c w s.h ρ O)(m:SS w (AA c w O) ρ s.t a.tmps)(hr:kC a.tmps g)(l:p6 P t=true)(b:Nat->Option (Nat×Nat))
  (d:∀f p,uA P t f=some p->b f=some (p.1,P.cellsOf p.2)):
  ∀{k:List (Nat×Operand)} {j:List (Nat×List AV)},oY P t (s.get g) k=some j->te w (AA c w O) ρ b j (k.map λx=>(x.1,a.eval x.2))
 | [],j,e=>by simp only [oY,SR] at e;subst e;exact .nil
 | (f,o)::k,j,e=>by
  simp only [oY] at e;obtain⟨p,u,e⟩:=SU.1 e;split at e
  .rename_i i;obtain⟨q,v,e⟩:=SU.1 e;simp only [SR] at e;subst e;have hv:=SS.get (h:=s.h) m hr o;obtain⟨n,r⟩:=wX hs hv i.2;exact .cons (by rw [d f p u,show(St.get ⟨s.t,s.h⟩ g o)=s.get g o from rfl,i.1]) n r (Ig hs m hr l b d v)
  .simp at e
theorem KO{a:Act}{g:Option Gs}{t:TypeId}{m:Array (Nat×Operand)}{av:AV}(hs:HS c w s.h ρ O)(U:SS w (AA c w O) ρ s.t a.tmps)(hr:kC a.tmps g)(e:wT P t (s.get g) m.toList=some av):
  ∃v,(Instr.build t (m.map λ(i,x)=>(i,a.eval x))).run P w= .ok v w/\al w (AA c w O) ρ av v:=by
 unfold wT at e;split at e
 .rename_i b;obtain⟨z,hz,e⟩:=SU.1 e;obtain⟨l,T,e⟩:=SU.1 e;obtain⟨cs,L,e⟩:=SU.1 e;simp only [SR] at e;subst e;obtain⟨i,zv,hi,E,N⟩:=nX hz;have D:aR w (AA c w O) z zv.cells.toList:=oS N;have S:(m.map λ(i,x)=>(i,a.eval x)).toList=m.toList.map λx=>(x.1,a.eval x.2):=by simp
  have key:∀j:Nat->Option (Nat×Nat),(∀f p,uA P t f=some p->j f=some (p.1,P.cellsOf p.2))->∃r,Instr.fill j zv.cells (m.map λ(i,x)=>(i,a.eval x)).toList=some r/\ay w (AA c w O) ρ cs r.toList/\∀u∈r.toList,u.oneCell'=true/\u.cells= #[u]:=by intro j q;rw [S];exact Ga (Ig hs U hr b j q T) L (ay.lU D) D.one
  have C:∀r:Array Value,P.built t (m.map λ(i,x)=>(i,a.eval x)).toList=some r->ay w (AA c w O) ρ cs r.toList->(∀u∈r.toList,u.oneCell'=true/\u.cells= #[u])->
    ∃v,(Instr.build t (m.map λ(i,x)=>(i,a.eval x))).run P w= .ok v w/\al w (AA c w O) ρ (.agg cs) v:=by
   intro r hb h1 H;exact⟨_,run_build w t _ r hb,by simp only [al];exact⟨r.toList,by simp,h1,H⟩⟩
  cases k:P.underlying t with
  | none=>simp [p6,k] at b
  | some d=>
   cases d <;> simp only [p6,k,Tv] at b
   case struct B=>
    have o:B.toList.mapM (λf=>(P.info? f.type).map λi=>(f.offset,i.size))=some (B.toList.map λx=>(x.offset,P.cellsOf x.type)):=by
     generalize B.toList=l at b;induction l with
     | nil=>rfl
     | cons f l V=>simp only [Uu,S0] at b;obtain⟨d,I⟩:=UX.1 b.1;obtain⟨i,hi,y⟩:=xX I;simp only [Xw,hi,UR,Option.bind_eq_bind,S9,V b.2,Option.pure_def,TQ,y]
    obtain⟨r,F,G,e3⟩:=key ((B.toList.map λx=>(x.offset,P.cellsOf x.type)).toArray[·]?) (λf p J=>by
     obtain⟨_,h | ⟨n,e,h,_⟩⟩:=Ie J (by simp [p6,k,b])
     .obtain⟨K,h1,H⟩:=h;rw [k] at h1;simp only [SR,TypeDesc.struct.injEq] at h1;subst h1;simpa using H
     .rw [k] at h;simp at h)
    refine C r ?_ G e3;simp only [Program.built,hi,k,E,o];exact F
   case array n e=>
    obtain⟨d,I⟩:=UX.1 b;obtain⟨R,M,y⟩:=xX I;obtain⟨r,F,G,e3⟩:=key (λi=>some (i * R.size,R.size)) (λf p J=>by
     obtain⟨_,⟨K,h1,_⟩ | ⟨X,W,h,Q⟩⟩:=Ie J (by simp [p6,k,b])
     .rw [k] at h1;simp at h1
     .rw [k] at h;simp only [SR,TypeDesc.array.injEq] at h;obtain⟨rfl,rfl⟩:=h;subst Q;simp [y])
    refine C r ?_ G e3;simp only [Program.built,hi,k,E,M];exact F
 .simp at e
end
open Go
section
variable {P:Program} {w w':World} {A A':Nat->Prop} {c:Ctx} {ρ:Id->Option Value} {O:Id->Option Nat} {s:St} {cc:Option Bool} {h:Id->Option aa}
def cm(w:World)(A:Nat->Prop)(sz:Nat):List (List T)->List (List Value)->Prop
 | [],vss=>vss= []
 | cs::xs,vss=>∃vs r,vss=vs::r/\cs.length=sz/\aR w A cs vs/\cm w A sz xs r
theorem cm.mono{sz:Nat}(a:∀b,A b->A' b/\w'.heap[b]? =w.heap[b]?):∀{xs:List (List T)} {vss:List (List Value)},cm w A sz xs vss->cm w' A' sz xs vss
 | [],_,h=>h
 | cs::xs,vss,⟨vs,r,e,h1,d,f⟩=>⟨vs,r,e,h1,aR.mono a cs vs d,cm.mono a f⟩
theorem cm.length{sz:Nat}:∀{xs:List (List T)} {vss:List (List Value)},cm w A sz xs vss->vss.length=xs.length/\vss.flatten.length=xs.length * sz
 | [],vss,h=>by simp only [cm] at h;subst h;simp
 | cs::xs,vss,⟨vs,r,e,h1,d,f⟩=>by subst e;obtain⟨a,b⟩:=cm.length f;have:=d.length;refine⟨by simp [a], ?_⟩;simp only [U6,Uh,b,this,h1,Tr,T2];omega
theorem cm.one{sz:Nat}:∀{xs:List (List T)} {vss:List (List Value)},cm w A sz xs vss->∀u∈vss.flatten,u.oneCell'=true/\u.cells= #[u]
 | [],vss,h,u,hu=>by simp only [cm] at h;subst h;simp at hu
 | cs::xs,vss,⟨vs,r,e,h1,a,b⟩,u,hu=>by
  subst e;simp only [U6,Tm] at hu;rcases hu with hu | hu
  .exact a.one u hu
  .exact cm.one b u hu
theorem cm.append{sz:Nat}:∀{xs d:List (List T)} {vss a:List (List Value)},cm w A sz xs vss->cm w A sz d a->cm w A sz (xs++d) (vss++a)
 | [],_,vss,_,h,b=>by simp only [cm] at h;subst h;simpa using b
 | cs::xs,d,vss,a,⟨vs,r,e,h1,f,g⟩,b=>by subst e;exact⟨vs,r++a,rfl,h1,f,cm.append g b⟩
theorem aY.bc{ah sz:Nat}:∀{off:Nat} {xs:List (List T)},aY w A ah sz off xs->∃vss,cm w A sz xs vss/\∀p v,vss.flatten[p]? =some v->w.cell? ⟨ah,off+p,none⟩=some v
 | _,[],_=>⟨[],rfl,by simp⟩
 | off,cs::xs,h=>by
  simp only [aY] at h;obtain⟨vs,h1,d⟩:=h.2.1.bc;obtain⟨r,e,f⟩:=aY.bc h.2.2;refine⟨vs::r,⟨vs,r,rfl,h.1,h1,e⟩,λp v a=> ?_⟩;have b:=h1.length;rw [h.1] at b;rw [U6] at a;by_cases g:p < sz
  .rw [Uj (by omega)] at a;exact d p v a
  .rw [T4 (by omega),b] at a;have:=f _ v a;rw [show off+sz+ (p - sz)=off+p by omega] at this;exact this
theorem aY.kS{ah sz:Nat}:∀{off:Nat} {xs:List (List T)} {vss:List (List Value)},cm w A sz xs vss->(∀p v,vss.flatten[p]? =some v->w.cell? ⟨ah,off+p,none⟩=some v)->aY w A ah sz off xs
 | _,[],_,_,_=>by simp [aY]
 | off,cs::xs,vss,⟨vs,r,e,h1,a,f⟩,hv=>by
  subst e;have d:=a.length;rw [h1] at d;simp only [aY];refine⟨h1,aV.kS a (λj v b=>hv j v ?_),aY.kS f (λp v g=> ?_)⟩
  .rw [U6,Uj (Ta.1 b).1];exact b
  .have:=hv (sz+p) v (by rw [U6,T4 (by omega),d,show sz+p - sz=p by omega];exact g);rw [show off+sz+p=off+ (sz+p) by omega];exact this
theorem HS.BR{i:Id}(hs:HS c w h ρ O)(hi:h i=none){xs:List (List T)}{vss:List (List Value)}{sz:Nat}(t:TypeId)(cells:Array Value)(cap:Nat)(hr:cm w (AA c w O) sz xs vss)
  (d:∀(p:Nat) (v:Value),vss.flatten[p]? =some v->cells[p]? =some v) (a:xs.length<=cap) (f:cap * sz<=cells.size) (hrl:i.real=true:=by rfl):
  Le w ρ O (w.alloc (.cells cells t)) (aB ρ i (some (.slice (some ⟨w.heap.size,0,none⟩) xs.length cap))) (aB O i (some w.heap.size))/\
  HS c (w.alloc (.cells cells t)) (aB h i (some (.sl false sz false xs))) (aB ρ i (some (.slice (some ⟨w.heap.size,0,none⟩) xs.length cap))) (aB O i (some w.heap.size)):=by
 have le:=Le.alloc hs hrl hi (.cells cells t) (.slice (some ⟨w.heap.size,0,none⟩) xs.length cap) (some w.heap.size) (.inr rfl);refine⟨le,hs.alloc hrl hi _ _ _ (.inr rfl) _ ⟨_,by rw [aD],⟨some ⟨w.heap.size,0,none⟩,cap,rfl,a,by simp,trivial, .inr ⟨w.heap.size,0,cells,t,rfl,by simp,kN _,by omega, ?_⟩⟩,by simp⟩⟩;refine aY.kS (cm.mono (λb hb=>le.A b hb) hr) (λp v e=> ?_);rw [kH (kN _),TC];exact d p v e
theorem Fy{a:Act}{g:Option Gs}{e:TypeId}(hs:HS c w s.h ρ O)(C:SS w (AA c w O) ρ s.t a.tmps)(hr:kC a.tmps g){O':Id->Option Nat}(le:Le w ρ O w ρ O')(m:∀i,O' i=O i\/O' i=none):
  ∀{y:List (Nat×Operand)} {n:Nat} {q:List (List T)×aH},iA P s.h e (s.get g) n y=some q->(∀p∈q.2,O' p.1=none)->
   ∃vs:List Value,(y.map λx=>(x.1,a.eval x.2))= ((vs.zipIdx n).map λx=>(x.2,x.1))/\cm w (AA c w O') (P.cellsOf e) q.1 (vs.map λv=>v.cells.toList)/\(∀v∈vs,v.cells.size=P.cellsOf e)
 | [],n,q,b,_=>by simp only [iA,SR] at b;subst b;exact⟨[],rfl,by simp [cm],by simp⟩
 | (k,o)::y,n,q,b,r=>by
  simp only [iA] at b;obtain⟨l,F,b⟩:=SU.1 b;split at b
  .rename_i j;obtain⟨rfl,d⟩:=j;obtain⟨H,B,b⟩:=SU.1 b;simp only [SR] at b;subst b;simp only [Tm] at r;obtain⟨vs,D,E,e3⟩:=Fy hs C hr le m B (λp u=>r p (.inr u));have hv:=SS.get (h:=s.h) C hr o;obtain⟨z,G⟩:=CP hs hv F le m (λp u=>r p (.inl u));have gl:=z.length;refine⟨a.eval o::vs, ?_,⟨_,_,rfl,d,z,E⟩, ?_⟩
   .simp only [TQ,List.zipIdx_cons,D]
   .intro v f;rcases Tg.1 f with rfl | f
    .rw [<-Tu,gl,d]
    .exact e3 v f
  .simp at b
theorem Fx{e:TypeId}{ev:Operand->AV}:∀{b:List (Nat×Operand)} {n:Nat} {q:List (List T)×aH},iA P h e ev n b=some q->gw h q.2/\q.1.length=b.length
 | [],n,q,a=>by simp only [iA,SR] at a;subst a;exact⟨(λp i=>by cases i),rfl⟩
 | (k,o)::b,n,q,a=>by
  simp only [iA] at a;obtain⟨l,j,a⟩:=SU.1 a;split at a
  .obtain⟨m,d,a⟩:=SU.1 a;simp only [SR] at a;subst a;obtain⟨f,g⟩:=Fx d;exact⟨(Bi _).append f,by simp [g]⟩
  .simp at a
theorem CC{t e:TypeId}{n:Nat}(p:P.underlying t=some (.slice e))(k:bL P e=true)(hz:(jF P e).isSome=true)(b: 0 < P.cellsOf e)(hb:n<=1000/\P.cellsOf e<=1000)(vs:List Value)(hv:∀v∈vs,v.cells.size=P.cellsOf e)(g:vs.length=n)
  (m:Array (Nat×Value)) (a:m.toList= (vs.zipIdx 0).map λx=>(x.2,x.1)):
  (Instr.buildSlice t n m).run P w= .ok (.slice (some ⟨w.heap.size,0,none⟩) n n) (w.alloc (.cells (vs.flatMap λv=>v.cells.toList).toArray e)):=by
 obtain⟨z,hz⟩:=UX.1 hz;obtain⟨i,zv,hi,l,_⟩:=nX hz;have q:n * P.cellsOf e<=1000 * 1000:=Wz hb.1 hb.2;have h1:¬(n * P.cellsOf e > 2 ^ 24):=by
  have f:(2:Nat) ^ 24=16777216:=by decide
  rw [f];omega
 have o:=Go.Great.fill_whole b vs;unfold Instr.buildSlice;simp only [Tp,run_underlying p,Td,jd k,if_neg h1,Sem.run_ite];by_cases d:n * P.cellsOf e=0
 .have j:n=0:=by rcases Nat.mul_eq_zero.1 d with e | e <;> omega
  subst j;have:vs= []:=To.1 g;subst this;simp only [Nat.zero_mul,if_true,TD,Td];simp only [List.zipIdx_nil,VA] at a;simp [a,Instr.fill,newRow,Array.range_zero']
 .simp only [if_neg d,Tp,zeroValue,typeInfo,run_program,Td,hi,TD,l];rw [a,o _ hv (by simp [g])];simp [newRow]
theorem IL{t e:TypeId}{a:List T}{n m:Int}{kn km:IntKind}(q:P.underlying t=some (.slice e))(hz:jF P e=some a)(hb:P.bytesOf e<=8192)(p:a.length=P.cellsOf e)(o: 0<=n)(h1:n<=m)(d:m<=gf):
  ∃zv:Value,aR w A a zv.cells.toList/\(Instr.makeSlice t (.int kn n) (.int km m)).run P w= .ok (.slice (some ⟨w.heap.size,0,none⟩) n.toNat m.toNat) (w.alloc (.cells (madeCells zv.cells (m.toNat * P.cellsOf e)) e)):=by
 obtain⟨i,zv,hi,k,g⟩:=nX hz;have j:P.cellsOf e=i.size:=by simp [Program.cellsOf,hi]
 have f:P.bytesOf e=i.bytes:=by simp [Program.bytesOf,hi]
 refine⟨zv,oS g, ?_⟩;rw [j];refine run_make w t e i zv q hi k kn km n m o h1 ?_ ?_
 .rw [f] at hb;have:(i.bytes:Int) * m<=8192 * 4294967296:=by
   have l:(i.bytes:Int)<=8192:=by omega
   have b:m<=4294967296:=by simpa [gf] using d
   calc (i.bytes:Int) * m<=8192 * m:=TF l (by omega)
    _<=8192 * 4294967296:=Ti b (by omega)
  omega
 .have b:m<=4294967296:=by simpa [gf] using d
  omega
theorem BG{zv:Array Value}{sz:Nat}(hz:zv.size=sz)(n m:Nat)(g:n<=m):∀(p:Nat) (v:Value),(List.replicate n zv.toList).flatten[p]? =some v->(madeCells zv (m * sz))[p]? =some v:=by
 intro p v a;have b:p < n * sz:=by have:=(Ta.1 a).1;simpa [hz] using this
 have f: 0 < sz:=by
  rcases Nat.eq_zero_or_pos sz with e | e
  .rw [e] at b;simp at b
  .exact e
 have hm:n * sz<=m * sz:=TK _ g;have key:∀n p,p < n * sz->(List.replicate n zv.toList).flatten[p]? =zv[p % sz]?:=by
  intro n;induction n with
  | zero=>intro p h;simp at h
  | succ n i=>
   intro p h;rw [TX,U6];by_cases a:p < sz
   .rw [Uj (by simpa [hz] using a),Vd a];simp
   .rw [T4 (by simp [hz];omega)];simp only [Tu,hz];have j:(n+1) * sz=n * sz+sz:=T2 _ _;rw [i _ (by omega)];congr 1;exact(Nat.mod_eq_sub_mod (by omega)).symm
 rw [key n p b] at a;have d:p % sz < zv.size:=by rw [hz];exact WN _ f
 simp only [madeCells,Array.getElem?_map];rw [Vg (by simp;omega)];simp only [Array.getElem_range,UR,hz];rw [Vg d] at a;rw [getElem!_pos zv _ d];exact a
theorem cm.replicate{sz:Nat}{a:List T}{vs:List Value}(hr:aR w A a vs)(b:a.length=sz):∀n,cm w A sz (List.replicate n a) (List.replicate n vs)
 | 0=>rfl
 | n+1=>⟨vs,List.replicate n vs,rfl,b,hr,cm.replicate hr b n⟩
end
end Go.Aev
