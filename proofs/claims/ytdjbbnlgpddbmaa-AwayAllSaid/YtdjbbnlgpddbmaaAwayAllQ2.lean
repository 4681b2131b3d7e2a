import Derived.Test.YtdjbbnlgpddbmaaAwayAllQ1
import Derived.ChangeKeysEq
import Derived.Deep.AppendSrc
import Derived.Great.FillDense
set_option linter.all false
namespace Go.Aev
open Go Go.IntKind
section
variable {P:Program} {w:World} {A:Nat->Prop}
theorem T.fA{k:IntKind}{x:T}{n:Int}(h:x.int? k=some n):x= .int k n:=by cases x <;> simp only [T.int?,reduceCtorEq] at h;split at h <;> simp_all
theorem T.ik{x:T}{b:Bool}(h:x.bool? =some b):x= .bool b:=by cases x <;> simp_all [T.bool?]
theorem T.jB{x:T}{s:ByteArray}(h:x.bf =some s):x= .str s:=by cases x <;> simp_all [T.bf]
theorem T.wV{x:T}{cs:List T}(h:x.pf =some cs):x= .ptr cs:=by cases x <;> simp_all [T.pf]
theorem T.o9{sz:Nat}{x:T}{p:Bool×List (List T)}(h:x.aM sz=some p):x= .ae sz p.1 p.2\/(x= .aL p.1/\p.2= []):=by
 cases x <;> simp only [T.aM,reduceCtorEq,RJ] at h
 case ae a b xs=>split at h <;> simp_all;subst h;simp
 case aL b=>subst h;simp
theorem Nf{w:World}{A:Nat->Prop}{y:T}{v:Value}(h:wz y=true)(hr:au w A y v):v= .slice none 0 0:=by
 unfold wz at h;split at h
 .simp only [au] at hr;rcases hr with⟨_,h⟩ | ⟨h,_⟩
  .exact h
  .cases h
 .simp only [au] at hr;rcases hr with⟨_,_,h⟩ | ⟨h,_⟩
  .exact h
  .cases h
 .cases h
theorem AV.lf{v:AV}{x:T}(h:v.t? =some x):v= .t x:=by cases v <;> simp_all [AV.t?]
theorem o4{d R:Type}[Inhabited d]{c:Option Bool}{m:Option d}{k:d->Option R}{r:R}(h:aa c m k=some r):
  ∃a,k a=some r/\(m=some a\/(m=none/\c=some false)):=by
 unfold aa at h;cases m with
 | some a=>exact⟨a,h, .inl rfl⟩
 | none=>cases c with
  | none=>simp at h
  | some b=>cases b with
   | true=>simp at h
   | false=>exact⟨_,h, .inr ⟨rfl,rfl⟩⟩
def rO(P:Program)(R:Value->World->Prop):Result Next->Prop
 | .ok (.value x) w'=>R x w'
 | .ok .skip w'=>R undef w'
 | .ok (.enter f args) w'=>Calls P f args w' λe a=>∃x,e= .returned x/\R x a
 | _=>False
def ic(P:Program)(o:Oper)(a:Act)(w:World)(R:Value->World->Prop):Prop:=rO P R ((execOp a.eval o).run P w)
theorem ic.mono{o:Oper}{a:Act}{R b:Value->World->Prop}(h:ic P o a w R)(hr:∀x w',R x w'->b x w'):ic P o a w b:=by
 unfold ic at *
 generalize (execOp a.eval o).run P w=r at *
 cases r with
 | ok n w'=>
  cases n <;> simp only [rO] at h⊢
  case enter=>exact h.mono λe g ⟨x,d,f⟩=>⟨x,d,hr _ _ f⟩
  all_goals exact hr _ _ h
 | halt x w'=>simp [rO] at h
theorem ic.wp{o:Oper}{a:Act}{R:Value->World->Prop}{K:Act->World->Prop}{Q:Exit->Act->World->Prop}(h:ic P o a w R)(hk:∀x w',R x w'->K (a.put o.dst x) w'):o.wp P a w K Q:=by
 unfold ic at h;unfold Oper.wp;generalize (execOp a.eval o).run P w=r at *
 cases r with
 | ok n w'=>
  cases n <;> simp only [rO] at h <;> simp only [Oper.upon]
  case enter=>exact h.mono λe f ⟨x,b,d⟩=>by subst b;exact hk _ _ d
  all_goals first | exact hk _ _ h | exact h.elim
 | halt x w'=>simp [rO] at h
theorem wo{t:TypeId}{d:TypeDesc}(h:P.underlying t=some d):∃i,P.info? t=some i/\P.cellsOf t=i.size:=by
 unfold Program.underlying at h;cases hi:P.info? t with
 | none=>simp [hi] at h
 | some i=>exact⟨i,rfl,by simp [Program.cellsOf,hi]⟩
theorem iB{t:TypeId}(h:bB P t=true)(w:World):(sizeOf t).run P w= .ok (P.cellsOf t) w:=by unfold bB at h;obtain⟨d,a⟩:=Tz.1 h;obtain⟨i,hi,hs⟩:=wo a;rw [hs];simp [sizeOf,typeInfo,hi]
theorem qX{t:TypeId}(h:bB P t=true)(w:World):(isAgg t).run P w= .ok (be P t) w:=by unfold bB at h;obtain⟨d,a⟩:=Tz.1 h;unfold isAgg be;simp only [R6,run_underlying a,RT,a];cases d <;> rfl
theorem fJ(k:IntKind)(n:Int)(w:World)(A:Nat->Prop):au w A (.int k n) (.int k n):=by simp [au]
theorem mU(b:Bool)(w:World)(A:Nat->Prop):au w A (.bool b) (.bool b):=by simp [au]
theorem kX(b:ByteArray)(w:World)(A:Nat->Prop):au w A (.str b) (.string b):=by simp [au]
theorem JX{R:Type}{op:BinOp}{k:IntKind}{c:Option Bool}{x y:T}{K:T->Option R}{r:R}{t:TypeId}{j l:Value}(f:c=none\/c=some true)
  (i:au w A x j) (hy:au w A y l) (h:pW op k c x y K=some r):
  ∃z m,K z=some r/\(∀w A,au w A z m)/\(binOp op t j l).run P w= .ok m w:=by
 unfold pW at h;replace h:=aI h f;obtain⟨a,n,h⟩:=h;replace h:=aI h f;obtain⟨b,hb,h⟩:=h;have:=T.fA n;subst this;have:=T.fA hb;subst this;simp only [au] at i hy;subst i;subst hy;cases op <;> simp only [reduceCtorEq] at h
 case quo=>
  replace h:=aI h f;obtain⟨_,g,h⟩:=h;have d:b≠0:=by intro e;simp [e] at g
  exact⟨_,_,h,by first | exact fJ _ _ | exact mU _ | exact kX _,by simp [binOp,Op.intDiv,d]⟩
 case rem=>
  replace h:=aI h f;obtain⟨_,g,h⟩:=h;have d:b≠0:=by intro e;simp [e] at g
  exact⟨_,_,h,by first | exact fJ _ _ | exact mU _ | exact kX _,by simp [binOp,Op.intDiv,d]⟩
 all_goals exact⟨_,_,h,by first | exact fJ _ _ | exact mU _ | exact kX _,by simp [binOp,Op.intArith,Op.intBits,Op.intCmp]⟩
theorem P4{R:Type}{op:BinOp}{k ky:IntKind}{c:Option Bool}{x y:T}{K:T->Option R}{r:R}{t:TypeId}{i j:Value}(d:c=none\/c=some true)
  (g:au w A x i) (hy:au w A y j) (h:qY op k ky c x y K=some r):
  ∃z l,K z=some r/\(∀w A,au w A z l)/\(binOp op t i j).run P w= .ok l w:=by
 unfold qY at h;replace h:=aI h d;obtain⟨a,n,h⟩:=h;replace h:=aI h d;obtain⟨b,hb,h⟩:=h;have:=T.fA n;subst this;have:=T.fA hb;subst this;simp only [au] at g hy;subst g;subst hy;replace h:=aI h d;obtain⟨_,m,h⟩:=h;have f:¬b < 0:=by intro e;simp [e] at m
 cases op <;> simp only [reduceCtorEq] at h
 all_goals exact⟨_,_,h,by first | exact fJ _ _ | exact mU _ | exact kX _,by simp [binOp,Op.shift,f]⟩
theorem Qp{R:Type}{op:BinOp}{c:Option Bool}{x y:T}{K:T->Option R}{r:R}{t:TypeId}{i j:Value}(d:c=none\/c=some true)
  (g:au w A x i) (hy:au w A y j) (h:rf op c x y K=some r):
  ∃z k,K z=some r/\(∀w A,au w A z k)/\(binOp op t i j).run P w= .ok k w:=by
 unfold rf at h;replace h:=aI h d;obtain⟨a,m,h⟩:=h;replace h:=aI h d;obtain⟨b,hb,h⟩:=h;have:=T.jB m;subst this;have:=T.jB hb;subst this;simp only [au] at g hy;subst g;subst hy;cases op <;> simp only [reduceCtorEq] at h
 case add=>
  replace h:=aI h d;obtain⟨_,l,h⟩:=h;have n:a.size+b.size<=4294967296:=by
   by_cases e:a.size+b.size<=4294967296
   .exact e
   .simp [e] at l
  have f:¬(((a.size+b.size:Nat):Int) > i64.max):=by
   have:i64.max=9223372036854775807:=by decide
   rw [this];omega
  exact⟨_,_,h,by first | exact fJ _ _ | exact mU _ | exact kX _,by simp only [binOp,Op.stringOp,if_neg f];rfl⟩
 all_goals exact⟨_,_,h,by first | exact fJ _ _ | exact mU _ | exact kX _,by simp [binOp,Op.stringOp]⟩
theorem J7{R:Type}{op:BinOp}{t ty:TypeId}{c:Option Bool}{x y:T}{K:T->Option R}{r:R}{d e:Value}(a:c=none\/c=some true)
  (b:au w A x d) (hy:au w A y e) (h:pX P op t ty c x y K=some r):
  (op≠ .eql/\op≠ .neq)/\∃z f,K z=some r/\(∀w A,au w A z f)/\(binOp op t d e).run P w= .ok f w:=by
 unfold pX at h;cases op <;> simp only [reduceCtorEq] at h <;> refine⟨⟨by simp,by simp⟩, ?_⟩ <;> split at h <;> first | exact JX a b hy h | exact P4 a b hy h | exact Qp a b hy h | simp at h
theorem Rd{R:Type}{op:UnOp}{t:TypeId}{c:Option Bool}{x:T}{K:T->Option R}{r:R}{f:Value}(e:c=none\/c=some true)
  (b:au w A x f) (h:rp P op t c x K=some r):
  ∃z g,K z=some r/\(∀w A,au w A z g)/\(Op.unary op f).run P w= .ok g w:=by
 unfold rp at h;split at h
 .replace h:=aI h e;obtain⟨a,d,h⟩:=h;have:=T.fA d;subst this;simp only [au] at b;subst b;exact⟨_,_,h,by first | exact fJ _ _ | exact mU _ | exact kX _,by simp [Op.unary,Op.intArith]⟩
 .replace h:=aI h e;obtain⟨a,d,h⟩:=h;have:=T.fA d;subst this;simp only [au] at b;subst b;exact⟨_,_,h,by first | exact fJ _ _ | exact mU _ | exact kX _,by simp [Op.unary,Op.intBits]⟩
 .replace h:=aI h e;obtain⟨a,d,h⟩:=h;have:=T.ik d;subst this;simp only [au] at b;subst b;exact⟨_,_,h,by first | exact fJ _ _ | exact mU _ | exact kX _,by simp [Op.unary]⟩
 .simp at h
theorem My{R:Type}{d:Nat}{t:TypeId}{c:Option Bool}{x y:T}{K:Bool->Option R}{r:R}{j l:Value}(e:c=none\/c=some true)
  (f:au w A x j) (hy:au w A y l) (h:kO P c t x y K=some r):∃b,K b=some r/\(Op.equalIn (d+1) t j l).run P w= .ok b w:=by
 unfold kO at h;split at h
 .rename_i k i;replace h:=aI h e;obtain⟨a,g,h⟩:=h;replace h:=aI h e;obtain⟨b,hb,h⟩:=h;have:=T.fA g;subst this;have:=T.fA hb;subst this;simp only [au] at f hy;subst f;subst hy;exact⟨_,h,by simp [Op.equalIn,run_underlying i]⟩
 .rename_i i;replace h:=aI h e;obtain⟨a,g,h⟩:=h;replace h:=aI h e;obtain⟨b,hb,h⟩:=h;have:=T.ik g;subst this;have:=T.ik hb;subst this;simp only [au] at f hy;subst f;subst hy;exact⟨_,h,by simp [Op.equalIn,run_underlying i]⟩
 .rename_i i;replace h:=aI h e;obtain⟨a,g,h⟩:=h;replace h:=aI h e;obtain⟨b,hb,h⟩:=h;have:=T.jB g;subst this;have:=T.jB hb;subst this;simp only [au] at f hy;subst f;subst hy;exact⟨_,h,by simp [Op.equalIn,run_underlying i]⟩
 .simp at h
theorem zM{R:Type}{c:Option Bool}(d:List TypeId):∀(ts:List TypeId) (xs a:List T) (K:Bool->Option R),
  dF P c (ts++d) xs a K=dF P c ts (xs.take ts.length) (a.take ts.length) (λq=>dF P c d (xs.drop ts.length) (a.drop ts.length) λe=>K (q && e))
 | [],xs,a,K=>by simp [dF]
 | t::ts,[],a,K=>by simp [dF]
 | t::ts,x::xs,[],K=>by simp [dF]
 | t::ts,x::xs,y::a,K=>by simp only [RU,Sc,Ve,List.drop_succ_cons,dF];congr 1;funext b;rw [zM d ts xs a];simp only [Bool.and_assoc]
theorem aO.take{cs:List T}{vs:List Value}(h:aO w A cs vs):∀n,aO w A (cs.take n) (vs.take n):=by
 intro n;induction n generalizing cs vs with
 | zero=>simp [aO]
 | succ n b=>
  cases cs with
  | nil=>simp only [aO] at h;subst h;simp [aO]
  | cons c cs=>obtain⟨v,r,rfl,h1,a⟩:=h;exact⟨v,r.take n,rfl,h1,b a⟩
theorem aO.drop{cs:List T}{vs:List Value}(h:aO w A cs vs):∀n,aO w A (cs.drop n) (vs.drop n):=by
 intro n;induction n generalizing cs vs with
 | zero=>simpa using h
 | succ n b=>
  cases cs with
  | nil=>simp only [aO] at h;subst h;simp [aO]
  | cons c cs=>obtain⟨v,r,rfl,h1,a⟩:=h;exact b a
end
open Go Go.IntKind
section
variable {P:Program} {w:World} {A:Nat->Prop}
def jC(P:Program)(t:TypeId)(vs:List Value):Value:=if be P t=true then .agg vs.toArray else vs.headD undef
theorem tf{t:TypeId}(b:bB P t=true)(xs:Array Value)(off:Nat)(h1:be P t=false->P.cellsOf t=1)(d:off+P.cellsOf t<=xs.size)(w:World):
  (part t xs off).run P w= .ok (jC P t ((xs.toList.drop off).take (P.cellsOf t))) w:=by
 unfold part jC;simp only [R6,qX b,RT];cases hb:be P t
 .simp only [R9,if_false];rw [h1 hb] at d⊢;have a:off < xs.size:=by omega
  have:xs[off]? =some xs[off]:=TV a;rw [this];have hl:off < xs.toList.length:=by simpa using a
  rw [TW hl];simp
 .simp only [if_true,R6,iB b,RT,Sf];congr 2;apply TY;simp [U3,Uz]
theorem aO.part{xs:List T}{vs:List Value}(h:aO w A xs vs)(off n:Nat):aO w A ((xs.drop off).take n) ((vs.drop off).take n):=(h.drop off).take n
theorem qk{R:Type}{c:Option Bool}(a:c=none\/c=some true):∀{ts:List TypeId} {xs d:List T} {K:Bool->Option R} {r:R},dF P c ts xs d K=some r->xs.length=ts.length/\d.length=ts.length
 | [],[],[],_,_,_=>⟨rfl,rfl⟩
 | t::ts,x::xs,y::d,K,r,h=>by
  simp only [dF] at h;have:∃b,dF P c ts xs d (λr=>K (b && r))=some r:=by
   unfold kO at h;split at h
   .replace h:=aI h a;obtain⟨_,_,h⟩:=h;replace h:=aI h a;obtain⟨_,_,h⟩:=h;exact⟨_,h⟩
   .replace h:=aI h a;obtain⟨_,_,h⟩:=h;replace h:=aI h a;obtain⟨_,_,h⟩:=h;exact⟨_,h⟩
   .replace h:=aI h a;obtain⟨_,_,h⟩:=h;replace h:=aI h a;obtain⟨_,_,h⟩:=h;exact⟨_,h⟩
   .simp at h
  obtain⟨b,hb⟩:=this;obtain⟨h1,e⟩:=qk a hb;simp [h1,e]
 | [],[],_::_,_,_,h=>by simp [dF] at h
 | [],_::_,_,_,_,h=>by simp [dF] at h
 | _::_,[],_,_,_,h=>by simp [dF] at h
 | _::_,_::_,[],_,_,h=>by simp [dF] at h
theorem oY{n:Nat}{t:TypeId}{ts:List TypeId}(h:eN P n t=some ts):bB P t=true:=by
 cases n with
 | zero=>simp [eN] at h
 | succ n=>
  simp only [eN] at h;unfold bB;cases a:P.underlying t with
  | none=>simp [a] at h
  | some d=>rfl
theorem Fy{n:Nat}{t:TypeId}{ts:List TypeId}(h:eN P n t=some ts)(hb:be P t=false):ts= [t]:=by
 cases n with
 | zero=>simp [eN] at h
 | succ n=>
  simp only [eN] at h;unfold be at hb;cases a:P.underlying t with
  | none=>simp [a] at h
  | some d=>cases d <;> simp_all
def yd(P:Program)(w:World)(A:Nat->Prop)(n:Nat):Prop:= ∀(t:TypeId) (ts:List TypeId),eN P n t=some ts->∀(d:Nat),n<=d->
 ∀(R:Type) (c:Option Bool),c=none\/c=some true->∀(xs f:List T) (a e:List Value) (K:Bool->Option R) (r:R),aO w A xs a->aO w A f e->dF P c ts xs f K=some r->
  ∃b,K b=some r/\(Op.equalIn d t (jC P t a) (jC P t e)).run P w= .ok b w
theorem Fg{n d:Nat}(y:yd P w A n)(x:n<=d){X Y:Array Value}{R:Type}{c:Option Bool}(g:c=none\/c=some true):
  ∀(a:List Field) (off:Nat) (ts:List TypeId),qz P (eN P n) a off=some ts->∀(xs k:List T) (K:Bool->Option R) (r:R),aO w A xs (X.toList.drop off)->aO w A k (Y.toList.drop off)->
   dF P c ts xs k K=some r->∃b,K b=some r/\(Op.eqFields d X Y a).run P w= .ok b w
 | [],off,ts,h,xs,k,K,r,j,hy,hr=>by simp only [qz,RJ] at h;subst h;obtain⟨h1,D⟩:=qk g hr;have:=R4.1 h1;subst this;have:=R4.1 D;subst this;exact⟨true,by simpa [dF] using hr,by simp [Op.eqFields]⟩
 | f::a,off,ts,h,xs,k,K,r,j,hy,hr=>by
  simp only [qz] at h;by_cases i:f.offset=off/\f.name≠ "_"
  .rw [if_pos i] at h;cases hl:eN P n f.type with
   | none=>simp [hl] at h
   | some l=>
    simp only [hl,R2] at h;by_cases e:P.cellsOf f.type=l.length/\0 < l.length
    .rw [if_pos e] at h;obtain⟨hs,E⟩:=e;cases p:qz P (eN P n) a (off+l.length) with
     | none=>simp [p] at h
     | some q=>
      simp only [p,R2,RJ] at h;subst h;obtain⟨F,ly⟩:=qk g hr;simp only [SI] at F ly;rw [zM] at hr;obtain⟨t,u,B⟩:=y f.type l hl d x R c g _ _ _ _ _ _ (j.take l.length) (hy.take l.length) hr;have m:=j.drop l.length;have o:=hy.drop l.length;rw [VJ] at m o;obtain⟨z,v,C⟩:=Fg y x g a (off+l.length) q p _ _ _ _ m o u;have sx:=j.length;have G:=hy.length;simp only [Ts,R8] at sx G;have one:be P f.type=false->P.cellsOf f.type=1:=λhb=>by rw [hs,Fy hl hb];rfl
      refine⟨t && z,v, ?_⟩;simp only [Op.eqFields,ne_eq,i.2,not_false_eq_true,if_true,R6];rw [i.1,tf (oY hl) X off one (by rw [hs];omega) w];simp only [RT];rw [tf (oY hl) Y off one (by rw [hs];omega) w];simp only [RT,hs,B];cases t
      .simp
      .simp [C]
    .rw [if_neg e] at h;simp at h
  .rw [if_neg i] at h;simp at h
theorem Fh{n d:Nat}(B:yd P w A n)(z:n<=d){X Y:Array Value}{R:Type}{c:Option Bool}(g:c=none\/c=some true){e:TypeId}{l:List TypeId}(hl:eN P n e=some l)(hs:P.cellsOf e=l.length):
  ∀(m k:Nat) (xs j:List T) (K:Bool->Option R) (r:R),aO w A xs (X.toList.drop (k * P.cellsOf e))->aO w A j (Y.toList.drop (k * P.cellsOf e))->
   dF P c (List.replicate m l).flatten xs j K=some r->∃b,K b=some r/\(Op.eqItems d e (P.cellsOf e) X Y (List.range' k m)).run P w= .ok b w
 | 0,k,xs,j,K,r,i,hy,hr=>by obtain⟨h1,D⟩:=qk g hr;have:=R4.1 h1;subst this;have:=R4.1 D;subst this;exact⟨true,by simpa [dF] using hr,by simp [Op.eqItems]⟩
 | m+1,k,xs,j,K,r,i,hy,hr=>by
  simp only [Sv,TI] at hr;obtain⟨E,ly⟩:=qk g hr;simp only [SI] at E ly;rw [zM] at hr;obtain⟨f,y,a⟩:=B e l hl d z R c g _ _ _ _ _ _ (i.take l.length) (hy.take l.length) hr;have p:=i.drop l.length;have q:=hy.drop l.length;have hk:k * P.cellsOf e+l.length= (k+1) * P.cellsOf e:=by rw [hs,SH]
  rw [VJ,hk] at p q;obtain⟨v,o,t⟩:=Fh B z g hl hs m (k+1) _ _ _ _ p q y;have sx:=i.length;have C:=hy.length;simp only [Ts,R8] at sx C;have one:be P e=false->P.cellsOf e=1:=λhb=>by rw [hs,Fy hl hb];rfl
  by_cases x:l.length=0
  ·
   refine⟨f && v,o, ?_⟩;have u:be P e=true:=by
    cases hb:be P e
    .have:=one hb;omega
    .rfl
   have F:∀(Z:Array Value) (w:World),(part e Z (k * P.cellsOf e)).run P w= .ok (jC P e []) w:=by intro Z w;unfold part jC;simp only [R6,qX (oY hl),RT,u,if_true,iB (oY hl),Sf,hs,x];simp
   simp only [U4,Op.eqItems,R6,F,RT];rw [x] at a;simp only [Uc] at a;rw [a];cases f
   .simp
   .simp [t]
  .refine⟨f && v,o, ?_⟩;simp only [U4,Op.eqItems,R6];rw [tf (oY hl) X _ one (by rw [hs] at sx⊢;omega) w];simp only [RT];rw [tf (oY hl) Y _ one (by rw [hs] at C⊢;omega) w];simp only [RT,hs];rw [hs] at a t;simp only [a,RT];cases f
   .simp
   .simp [t]
theorem zO:∀n,yd P w A n
 | 0=>by intro t ts h;simp [eN] at h
 | n+1=>by
  intro t ts h d T R c j xs k N Q K r z hy hr;obtain⟨d,rfl⟩:∃J,d=J+1:=⟨d - 1,by omega⟩;have I:=zO n;simp only [eN] at h;have a:be P t=false->ts= [t]->∃b,K b=some r/\(Op.equalIn (d+1) t (jC P t N) (jC P t Q)).run P w= .ok b w:=by
   intro hb H;subst H;obtain⟨B,ly⟩:=qk j hr;cases xs with
   | nil=>simp at B
   | cons x xs=>cases k with
    | nil=>simp at ly
    | cons y k=>simp only [Sc,Sx,Sn,Nat.add_eq_right,R4] at B ly;subst B;subst ly;obtain⟨v,q,rfl,h1,V⟩:=z;obtain⟨u,p,rfl,M,U⟩:=hy;simp only [dF,U7] at hr;simpa [jC,hb] using My (d:=d) j h1 M hr
  cases f:P.underlying t with
  | none=>simp [f] at h
  | some L=>
   cases L <;> simp only [f,reduceCtorEq,RJ] at h
   case int=>exact a (by simp [be,f]) h.symm
   case bool=>exact a (by simp [be,f]) h.symm
   case string=>exact a (by simp [be,f]) h.symm
   case struct C=>
    split at h
    .simp at h
    .rename_i G;have g:be P t=true:=by simp [be,f]
     have E:P.underlying t=some (.struct (P.fieldsOf t)):=by simp [Program.fieldsOf,f]
     have F:P.fieldsOf t=C:=by simp [Program.fieldsOf,f]
     simp only [jC,g,if_true];rw [run_equalIn_struct w d t _ _ E (by simpa using G),F];exact Fg I (by omega) j C.toList 0 ts h xs k K r (by simpa using z) (by simpa using hy) hr
   case array m e=>
    cases hl:eN P n e with
    | none=>simp [hl] at h
    | some l=>
     simp only [hl,R2] at h;split at h
     .rename_i hs;simp only [RJ] at h;subst h;have g:be P t=true:=by simp [be,f]
      have o:=oY hl;unfold bB at o;obtain⟨S,D⟩:=Tz.1 o;obtain⟨i,hi,_⟩:=wo D;simp only [jC,g,if_true];rw [run_equalIn_array w d _ _ f hi,VD];exact Fh I (by omega) j hl hs m 0 xs k K r (by simpa using z) (by simpa using hy) hr
     .simp at h
theorem Fb{R:Type}{ρ:Id->Option Value}{t:TypeId}{c:Option Bool}{x y:AV}{K:Bool->Option R}{r:R}{q u:Value}(i:c=none\/c=some true)
  (f:ai w A ρ x q) (hy:ai w A ρ y u) (h:oV P c t x y K=some r) (v z:Operand):
  ∃b,K b=some r/\((eqGuard .eql t v z q u).run P w= .ok () w/\(binOp .eql t q u).run P w= .ok (.bool b) w)/\((eqGuard .neq t v z q u).run P w= .ok () w/\(binOp .neq t q u).run P w= .ok (.bool (!b)) w):=by
 unfold oV at h;split at h
 .rename_i x y;simp only [ai] at f hy;cases n:Ag P t
  .simp only [n,cond_false] at h;have d:=h;unfold kO at d;split at d
   .rename_i k p;replace d:=aI d i;obtain⟨a,m,d⟩:=d;replace d:=aI d i;obtain⟨b,hb,d⟩:=d;have:=T.fA m;subst this;have:=T.fA hb;subst this;simp only [au] at f hy;subst f;subst hy;exact⟨_,d,⟨by simp [eqGuard],by simp [binOp,Op.intCmp]⟩,⟨by simp [eqGuard],by simp [binOp,Op.intCmp,bne]⟩⟩
   .rename_i p;replace d:=aI d i;obtain⟨a,m,d⟩:=d;replace d:=aI d i;obtain⟨b,hb,d⟩:=d;have:=T.ik m;subst this;have:=T.ik hb;subst this;simp only [au] at f hy;subst f;subst hy;exact⟨_,d,⟨by simp [eqGuard],run_eql_bool w t a b p⟩,⟨by simp [eqGuard],run_neq_bool w t a b p⟩⟩
   .rename_i p;simp [Ag,p] at n
   .simp at d
  .simp only [n,cond_true] at h;replace h:=aI h i;obtain⟨a,m,h⟩:=h;replace h:=aI h i;obtain⟨b,hb,h⟩:=h;have:=T.jB m;subst this;have:=T.jB hb;subst this;simp only [au] at f hy;subst f;subst hy;exact⟨_,h,⟨by simp [eqGuard],by simp [binOp,Op.stringOp]⟩,⟨by simp [eqGuard],by simp [binOp,Op.stringOp]⟩⟩
 .rename_i xs H;cases j:(P.eqGuardType P.depth t || !be P t)
  .simp only [j,cond_false] at h;simp only [VE,Bool.not_eq_false'] at j;obtain⟨j,C⟩:=j;cases g:dZ xs with
   | none=>simp [g] at h
   | some D=>
    cases l:dZ H with
    | none=>simp [g,l] at h
    | some E=>
     cases o:eN P 8 t with
     | none=>simp [g,l,o] at h
     | some ts=>simp only [g,l,o,R2] at h;simp only [ai] at f hy;obtain⟨F,rfl,f,_⟩:=f;obtain⟨G,rfl,hy,_⟩:=hy;have B:be P t=true:=C;obtain⟨b,hb,e⟩:=zO 8 t ts o 10000 (by omega) R c i D E F G K r (aO.kT g f) (aO.kT l hy) h;simp only [jC,B,if_true] at e;exact⟨b,hb,⟨run_eqGuard_agg w .eql t v z _ _ j,by rw [run_eql_struct,e];rfl⟩,⟨run_eqGuard_agg w .neq t v z _ _ j,by rw [run_neq_struct,e];rfl⟩⟩
  .simp [j] at h
 .simp at h
end
open Go Go.IntKind
section
variable {P:Program} {w w':World} {A A':Nat->Prop} {c:Ctx} {ρ:Id->Option Value} {O:Id->Option Nat} {s:St} {cc:Option Bool}
theorem gh(b o j:Nat):(⟨b,o,none⟩:Addr).add j= ⟨b,o+j,none⟩:=by
 unfold Addr.add;split
 .rename_i h;subst h;rfl
 .rfl
theorem aP.aU{af:Nat}:∀{off:Nat} {cs:List T},aP w A af off cs->∃vs,aO w A cs vs/\∀j v,vs[j]? =some v->w.cell? ⟨af,off+j,none⟩=some v
 | _,[],_=>⟨[],rfl,by simp⟩
 | off,x::cs,h=>by
  simp only [aP] at h;obtain⟨⟨v,hv,hr⟩,b⟩:=h;obtain⟨vs,d,f⟩:=aP.aU b;refine⟨v::vs,⟨v,vs,rfl,hr,d⟩, ?_⟩;intro j u a;cases j with
  | zero=>simp at a;subst a;exact hv
  | succ j=>
   have:=f j u (by simpa using a);have e:off+1+j=off+ (j+1):=by omega
   rw [e] at this;exact this
theorem aO.one:∀{cs:List T} {vs:List Value},aO w A cs vs->∀u∈vs,u.oneCell'=true/\u.cells= #[u]
 | [],vs,h,u,hu=>by simp only [aO] at h;subst h;cases hu
 | x::cs,vs,⟨v,r,e,h1,a⟩,u,hu=>by
  subst e;rcases RV.1 hu with rfl | hu
  .exact h1.pc
  .exact aO.one a u hu
theorem xI{R:Type}(b:cc=none\/cc=some true):∀{n:Nat} {cs:List T} {K:List T->Option R} {r:R},oq cc n cs K=some r->∃l,l=cs.take n/\l.length=n/\K l=some r
 | 0,cs,K,r,h=>⟨[],by simp,rfl,h⟩
 | n+1,cs,K,r,h=>by
  simp only [oq] at h;replace h:=aI h b;obtain⟨x,a,h⟩:=h;obtain⟨l,h1,d,e⟩:=xI b h;cases cs with
  | nil=>simp at a
  | cons y cs=>simp only [S8,RJ] at a;subst a;exact⟨y::l,by simp [h1],by simp [d],e⟩
theorem BQ:∀{n:Nat} {cs l:List AV},m8 n cs=some l->l=cs.take n/\l.length=n
 | 0,cs,l,h=>by simp only [m8,RJ] at h;subst h;simp
 | n+1,[],l,h=>by simp [m8] at h
 | n+1,x::cs,l,h=>by
  simp only [m8] at h;cases a:m8 n cs with
  | none=>simp [a] at h
  | some q=>simp only [a,R2,RJ] at h;subst h;obtain⟨h1,b⟩:=BQ a;exact⟨by simp [h1],by simp [b]⟩
theorem Br{t:TypeId}(a:bB P t=true)(hb:be P t=true)(b off:Nat)(vs:List Value)(hl:vs.length=P.cellsOf t)(h:∀j v,vs[j]? =some v->w.cell? ⟨b,off+j,none⟩=some v):
  (loadVar t ⟨b,off,none⟩).run P w= .ok (.agg vs.toArray) w:=by
 unfold loadVar;simp only [R6,qX a,RT,hb,if_true,iB a,<-hl];rw [run_loadCells_list w ⟨b,off,none⟩ vs (λj v d=>by rw [gh];exact h j v d)];rfl
theorem xh{t:TypeId}(a:bB P t=true)(hb:be P t=false)(b off:Nat)(v:Value)(h:w.cell? ⟨b,off,none⟩=some v):
  (loadVar t ⟨b,off,none⟩).run P w= .ok v w:=by
 unfold loadVar;simp only [R6,qX a,RT,hb,R9,if_false];rw [run_load,h]
theorem ow{R:Type}{k:Ck}{x:T}{v:Value}{K:T->Option R}{r:R}(a:cc=none\/cc=some true)(hr:au w A x v)(h:ez k cc x K=some r):
  ∃y,K y=some r/\au w A y v:=by
 unfold ez at h;cases k with
 | i k=>simp only at h;replace h:=aI h a;obtain⟨n,hn,h⟩:=h;rw [T.fA hn] at hr;exact⟨_,h,hr⟩
 | b=>simp only at h;replace h:=aI h a;obtain⟨n,hn,h⟩:=h;rw [T.ik hn] at hr;exact⟨_,h,hr⟩
 | s=>simp only at h;replace h:=aI h a;obtain⟨n,hn,h⟩:=h;rw [T.jB hn] at hr;exact⟨_,h,hr⟩
 | l sz=>
  simp only at h;replace h:=aI h a;obtain⟨p,f,h⟩:=h;refine⟨_,h, ?_⟩;rcases T.o9 f with rfl | ⟨rfl,e⟩
  .exact hr
  .rw [e];simp only [au] at hr⊢;rcases hr with⟨d,rfl⟩ | ⟨d,af,off,g,rfl⟩
   .exact .inl ⟨d,trivial,rfl⟩
   .exact .inr ⟨d,af,off,g,0,rfl,by simp, .inl trivial,trivial⟩
 | x=>exact⟨_,h,hr⟩
theorem tE{R:Type}(b:cc=none\/cc=some true):∀{ks:List Ck} {xs:List T} {vs:List Value} {K:List T->Option R} {r:R},aO w A xs vs->dY cc ks xs K=some r->
  ∃a,K a=some r/\aO w A a vs
 | [],xs,vs,K,r,hr,h=>⟨_,h,hr⟩
 | _::_,[],vs,K,r,hr,h=>⟨_,h,hr⟩
 | k::ks,x::xs,vs,K,r,hr,h=>by obtain⟨v,q,rfl,h1,f⟩:=hr;simp only [dY] at h;obtain⟨y,h,d⟩:=ow b h1 h;obtain⟨a,h,e⟩:=tE b f h;exact⟨_,h,⟨v,q,rfl,d,e⟩⟩
theorem QE{R:Type}{k:Ck}{x:T}{K:T->Option R}{r:R}(a:cc=none\/cc=some true)(h:ez k cc x K=some r):
  ∃y,K y=some r/\∀(w:World) (A:Nat->Prop) (v:Value),au w A x v->au w A y v:=by
 have e:ez k cc x K= (ez k cc x some).bind K:=by rw [na];rfl
 rw [e] at h;obtain⟨y,hy,h⟩:=RK.1 h;refine⟨y,h,λw A v hr=> ?_⟩;obtain⟨z,hz,hr⟩:=ow a hr hy;simp only [RJ] at hz;subst hz;exact hr
theorem QF{R:Type}{ks:List Ck}{xs:List T}{K:List T->Option R}{r:R}(a:cc=none\/cc=some true)(h:dY cc ks xs K=some r):
  ∃y,K y=some r/\∀(w:World) (A:Nat->Prop) (vs:List Value),aO w A xs vs->aO w A y vs:=by
 have e:dY cc ks xs K= (dY cc ks xs some).bind K:=by rw [rm];rfl
 rw [e] at h;obtain⟨y,hy,h⟩:=RK.1 h;refine⟨y,h,λw A v hr=> ?_⟩;obtain⟨z,hz,hr⟩:=tE a hr hy;simp only [RJ] at hz;subst hz;exact hr
theorem QH{R:Type}{t:TypeId}{v:AV}{K:AV->Option R}{r:R}(a:cc=none\/cc=some true)(h:l9 P cc t v K=some r):
  ∃y,K y=some r/\∀(w:World) (A:Nat->Prop) (ρ:Id->Option Value) (u:Value),ai w A ρ v u->ai w A ρ y u:=by
 unfold l9 at h;split at h
 .obtain⟨y,h,g⟩:=QE a h;exact⟨_,h,λw A ρ u hr=>by simp only [ai] at hr⊢;exact g w A u hr⟩
 .rename_i vs;split at h
  .rename_i l hl;obtain⟨y,h,g⟩:=QF a h;refine⟨_,h,λw A ρ u hr=> ?_⟩;simp only [ai] at hr⊢;obtain⟨b,e,h1,d⟩:=hr;exact⟨b,e,aw.kU (g w A b (aO.kT hl h1)),d⟩
  .exact⟨_,h,λw A ρ u hr=>hr⟩
 .exact⟨_,h,λw A ρ u hr=>hr⟩
theorem xP{R:Type}(a:cc=none\/cc=some true):∀{ts:List TypeId} {vs:List AV} {K:List AV->Option R} {r:R},iG P cc ts vs K=some r->
  ∃y,K y=some r/\∀(w:World) (A:Nat->Prop) (ρ:Id->Option Value) (us:List Value),aw w A ρ vs us->aw w A ρ y us
 | [],vs,K,r,h=>⟨_,h,λw A ρ u hr=>hr⟩
 | _::_,[],K,r,h=>⟨_,h,λw A ρ u hr=>hr⟩
 | t::ts,v::vs,K,r,h=>by simp only [iG] at h;obtain⟨y,h,b⟩:=QH a h;obtain⟨g,h,d⟩:=xP a h;refine⟨_,h,λw A ρ us hr=> ?_⟩;simp only [aw] at hr⊢;obtain⟨u,q,e,h1,f⟩:=hr;exact⟨u,q,e,b w A ρ u h1,d w A ρ q f⟩
theorem wE{R:Type}{t:TypeId}(i:bB P t=true){b off:Nat}{cs:List T}{K:AV->Option R}{r:R}(d:cc=none\/cc=some true)(hr:aP w A b off cs)(h:jX P t cc cs K=some r):
  ∃av v,K av=some r/\(loadVar t ⟨b,off,none⟩).run P w= .ok v w/\ai w A ρ av v:=by
 obtain⟨vs,h1,g⟩:=hr.aU;unfold jX at h;cases hb:be P t
 .simp only [hb,cond_false] at h;replace h:=aI h d;obtain⟨x,f,h⟩:=h;cases cs with
  | nil=>simp at f
  | cons y cs=>simp only [S8,RJ] at f;subst f;obtain⟨v,q,rfl,a,_⟩:=h1;obtain⟨z,h,a⟩:=ow d a h;exact⟨_,v,h,xh i hb b off v (by simpa using g 0 v rfl),by simpa [ai] using a⟩
 .simp only [hb,cond_true] at h;obtain⟨l,hl,hn,h⟩:=xI d h;have a:=h1.take (P.cellsOf t);rw [<-hl] at a;have k:=a.length;obtain⟨n,h,m⟩:=tE d a h;refine⟨_,_,h,Br i hb b off _ (by rw [k,hn]) (λj v e=>g j v ?_), ?_⟩
  .rw [TA] at e;split at e
   .exact e
   .cases e
  .simp only [ai];exact⟨_,rfl,aw.kU m,a.one⟩
theorem Nx{R:Type}{t:TypeId}(g:bB P t=true){b off:Nat}{cs:List AV}{vs:List Value}{K:AV->Option R}{r:R}(hr:aw w A ρ cs vs)(h1:∀u∈vs,u.oneCell'=true/\u.cells= #[u])
  (f:∀j v,vs[j]? =some v->w.cell? ⟨b,off+j,none⟩=some v) (h:mL P t cs K=some r):
  ∃av v,K av=some r/\(loadVar t ⟨b,off,none⟩).run P w= .ok v w/\ai w A ρ av v:=by
 unfold mL at h;cases hb:be P t
 .simp only [hb,cond_false] at h;cases cs with
  | nil=>simp at h
  | cons y cs=>simp only [S8,R2] at h;simp only [aw] at hr;obtain⟨v,q,rfl,a,_⟩:=hr;exact⟨_,v,h,xh g hb b off v (by simpa using f 0 v rfl),a⟩
 .simp only [hb,cond_true] at h;cases e:m8 (P.cellsOf t) cs with
  | none=>simp [e] at h
  | some l=>
   simp only [e,R2] at h;obtain⟨hl,hn⟩:=BQ e;have a:=hr.take (P.cellsOf t);rw [<-hl] at a;have i:=a.length;refine⟨_,_,h,Br g hb b off _ (by rw [i,hn]) (λj v d=>f j v ?_), ?_⟩
   .rw [TA] at d;split at d
    .exact d
    .cases d
   .simp only [ai];exact⟨_,rfl,a,λu k=>h1 u (Td k)⟩
theorem yR{i:Id}{cs:List AV}(hs:HS c w s.h ρ O)(hi:s.h i=some (.box cs)):∃b arr t,ρ i=some (.pointer (some ⟨b,0,none⟩))/\O i=some b/\w.heap[b]? =some (.cells arr t (0,0))/\
  aw w (AA c w O) ρ cs arr.toList/\(∀u∈arr.toList,u.oneCell'=true/\u.cells= #[u])/\∀j v,arr.toList[j]? =some v->w.cell? ⟨b,j,none⟩=some v:=by
 obtain⟨b,arr,t,h1,d,a,e,f⟩:=hs.af i _ hi;refine⟨b,arr,t,h1,d,a,e,f,λj v g=> ?_⟩;simp only [World.cell?,a];simpa using g
theorem pr{i:Id}{a b:Bool}{sz:Nat}{l:List (List T)}(hs:HS c w s.h ρ O)(hi:s.h i=some (.sl a sz b l)):∃v,ρ i=some v/\cg w (AA c w O) sz b l v (λaf=>if a=true then AA c w O af else O i=some af):=by obtain⟨v,h1,d,_⟩:=hs.af i _ hi;exact⟨v,h1,d⟩
theorem bO.get{i:Id}{af sz ax rsz:Nat}:∀{es:List Row} {base k:Nat} {e:Row},bO w A ρ O i af sz ax rsz base es->es[k]? =some e->ig w A ρ O i af sz ax rsz (base+k * sz) e
 | [],_,_,_,_,h=>by simp at h
 | x::es,base,0,e,hr,h=>by simp only [Tq,RJ] at h;subst h;simpa using hr.1
 | x::es,base,k+1,e,hr,h=>by have:=bO.get hr.2 (k:=k) (by simpa using h);rw [show base+ (k+1) * sz=base+sz+k * sz by rw [SH];omega];exact this
theorem bO.own{i:Id}{af sz ax rsz n:Nat}{p:Bool×List (List T)}:∀{es:List Row} {base:Nat},bO w A ρ O i af sz ax rsz base es->bq n es=some p->∃v,ρ (.g i n)=some v/\cg w A rsz p.1 p.2 v (λb=>O (.g i n)=some b)
 | [],_,_,h=>by simp [bq] at h
 | e::es,base,hr,h=>by
  unfold bq at h;split at h
  .rename_i f;obtain⟨_,_,_,v,_,d,a⟩:=hr.1;rw [h] at a;rw [f] at d a;exact⟨v,d,a⟩
  .exact bO.own hr.2 h
theorem xg{i:Id}{b:Bool}{sz ax rsz nx n:Nat}{es:List Row}{p:Bool×List (List T)}(hs:HS c w s.h ρ O)(hi:s.h i=some (.rows b sz ax rsz nx es))(e:bq n es=some p):
  ∃v,ρ (.g i n)=some v/\cg w (AA c w O) rsz p.1 p.2 v (λb=>O (.g i n)=some b):=by
 obtain⟨a,cap,h1,j,k,l,d⟩:=hs.af i _ hi;rcases d with d | ⟨af,off,arr,t,q1,m,o,q,f⟩
 .have:es= []:=R4.1 (by omega);subst this;simp [bq] at e
 .exact f.own e
theorem Bo{R:Type}{i:Id}{n:Nat}{K:Nat->Bool->List (List T)->Option R}{r:R}(hs:HS c w s.h ρ O)(d:cc=none\/cc=some true)(h:kZ s.h cc i n K=some r):
  ∃rsz b xs v,K rsz b xs=some r/\ρ (.g i n)=some v/\cg w (AA c w O) rsz b xs v (λaf=>O (.g i n)=some af):=by
 unfold kZ at h;split at h
 .rename_i hi;replace h:=aI h d;obtain⟨p,e,h⟩:=h;obtain⟨v,h1,a⟩:=xg hs hi e;exact⟨_,_,_,v,h,h1,a⟩
 .cases h
theorem ig.aU{i:Id}{af sz ax rsz base:Nat}{e:Row}(h:ig w A ρ O i af sz ax rsz base e):∃vs:List Value,vs.length=sz/\(∀j v,vs[j]? =some v->w.cell? ⟨af,base+j,none⟩=some v)/\
  (∀j x v,j≠ax->e.cs[j]? =some x->vs[j]? =some v->au w A x v)/\∃v,vs[ax]? =some v/\ρ (.g i e.n)=some v:=by
 obtain⟨h1,r,f,v,l,t,C⟩:=h;have m:∀j,j < sz->∃u,w.cell? ⟨af,base+j,none⟩=some u:=by
  intro j a;by_cases b:j=ax
  .subst b;exact⟨v,l⟩
  .obtain⟨u,g,_⟩:=f j (e.cs[j]'(by omega)) b (RR _);exact⟨u,g⟩
 have get:∀j u,((List.range sz).map λj=>(w.cell? ⟨af,base+j,none⟩).getD undef)[j]? =some u->w.cell? ⟨af,base+j,none⟩=some u:=by intro j u a;rw [Sp] at a;obtain⟨k,hk,a⟩:=Uh.1 a;obtain⟨o,hk⟩:=RS.1 hk;rw [List.getElem_range] at hk;subst hk;obtain⟨B,p⟩:=m j (by simpa using o);rw [p] at a⊢;simpa using a
 refine⟨_,by simp,get,λj x u a z y=> ?_,v, ?_,t⟩
 .obtain⟨B,d,q⟩:=f j x a z;rw [get j u y] at d;cases d;exact q
 .rw [Sp,VH r];simp [l]
theorem aw.sO:∀{as:List AV} {vs:List Value},as.length=vs.length->(∀(j:Nat) (a:AV) (v:Value),as[j]? =some a->vs[j]? =some v->ai w A ρ a v)->aw w A ρ as vs
 | [],[],_,_=>by simp [aw]
 | [],_::_,h,_=>by simp at h
 | _::_,[],h,_=>by simp at h
 | a::as,v::vs,h,hr=>by simp only [aw];exact⟨v,vs,rfl,hr 0 a v rfl rfl,aw.sO (by simpa using h) λj a v h1 b=>hr (j+1) a v (by simpa using h1) (by simpa using b)⟩
theorem Jc{R:Type}(l:cc=none\/cc=some true):∀{ks:List Ck} {xs:List T} {vs:List Value} {ax:Nat} {K:List T->Option R} {r:R},xs.length=vs.length->(∀(j:Nat) (x:T) (v:Value),j≠ax->xs[j]? =some x->vs[j]? =some v->au w A x v)->
  (∀k,ks[ax]? =some k->k= .x)->dY cc ks xs K=some r->∃b,K b=some r/\b.length=vs.length/\∀j x v,j≠ax->b[j]? =some x->vs[j]? =some v->au w A x v
 | [],xs,vs,ax,K,r,hl,hr,hk,h=>⟨xs,h,hl,hr⟩
 | k::ks,[],vs,ax,K,r,hl,hr,hk,h=>⟨[],h,hl,by simp⟩
 | k::ks,x::xs,[],ax,K,r,hl,hr,hk,h=>by simp at hl
 | k::ks,x::xs,v::vs,0,K,r,hl,hr,hk,h=>by
  simp only [dY] at h;have:k= .x:=hk k rfl;subst this;simp only [ez] at h;have t:aO w A xs vs:=by
   have o:∀(xs:List T) (vs:List Value),xs.length=vs.length->(∀(j:Nat) (x:T) (v:Value),xs[j]? =some x->vs[j]? =some v->au w A x v)->aO w A xs vs:=by
    intro xs;induction xs with
    | nil=>intro vs hl _;cases vs;rfl;simp at hl
    | cons x xs n=>
     intro vs hl hr;cases vs with
     | nil=>simp at hl
     | cons v vs=>exact⟨v,vs,rfl,hr 0 x v rfl rfl,n vs (by simpa using hl) λj x v h1 d=>hr (j+1) x v (by simpa using h1) (by simpa using d)⟩
   exact o xs vs (by simpa using hl) λj x v h1 d=>hr (j+1) x v (by omega) (by simpa using h1) (by simpa using d)
  obtain⟨b,h,g⟩:=tE l t h;have gl:=g.length;refine⟨_,h,by simp;omega,λj y u m hy e=> ?_⟩;cases j with
  | zero=>exact(m rfl).elim
  | succ j=>
   simp only [TE] at hy e;have:∀(b:List T) (vs:List Value) (j:Nat),aO w A b vs->b[j]? =some y->vs[j]? =some u->au w A y u:=by
    intro b;induction b with
    | nil=>intro vs j _ h;simp at h
    | cons a b n=>
     rintro vs j ⟨B,q,rfl,f,i⟩ h1 d;cases j with
     | zero=>simp at h1 d;subst h1;subst d;exact f
     | succ j=>exact n q j i (by simpa using h1) (by simpa using d)
   exact this b vs j g hy e
 | k::ks,x::xs,v::vs,ax+1,K,r,hl,hr,hk,h=>by
  simp only [dY] at h;obtain⟨y,h,f⟩:=ow l (hr 0 x v (by omega) rfl rfl) h;obtain⟨b,h,i,z⟩:=Jc l (ax:=ax) (by simpa using hl) (λj x v m h1 d=>hr (j+1) x v (by omega) (by simpa using h1) (by simpa using d)) (λk p=>hk k (by simpa using p)) h;refine⟨_,h,by simp [i],λj y' u m hy e=> ?_⟩;cases j with
  | zero=>simp at hy e;subst hy;subst e;exact f
  | succ j=>exact z j y' u (by omega) (by simpa using hy) (by simpa using e)
theorem Nu{R:Type}{t:TypeId}{i:Id}{af sz ax rsz base off:Nat}{e:Row}{h:Id->Option ab}{K:AV->Option R}{r:R}(hs:HS c w h ρ O)(q:bB P t=true)(g:cc=none\/cc=some true)(hr:ig w (AA c w O) ρ O i af sz ax rsz base e)(hk:qG P t cc i sz ax off e K=some r):
  ∃av v,K av=some r/\(loadVar t ⟨af,base+off,none⟩).run P w= .ok v w/\ai w (AA c w O) ρ av v:=by
 unfold qG at hk;cases hb:be P t
 .simp only [hb,cond_false] at hk;split at hk
  .rename_i b;subst b;obtain⟨_,_,_,v,H,I,_⟩:=hr;exact⟨_,v,hk,xh q hb _ _ v H,by simp only [ai];exact I⟩
  .rename_i C;replace hk:=aI hk g;obtain⟨x,o,hk⟩:=hk;have D:e.cs[off]? =some x:=by rw [List.head?_drop] at o;exact o
   obtain⟨u,p,f⟩:=hr.2.2.1 off x C D;obtain⟨y,hk,G⟩:=ow g f hk;exact⟨_,u,hk,xh q hb _ _ u p,by simp only [ai];exact G⟩
 .simp only [hb,cond_true] at hk;split at hk
  .rename_i m;obtain⟨rfl,T⟩:=m;obtain⟨l,hl,hn,hk⟩:=xI g hk;have L:=hr.1;have B:l=e.cs:=by rw [hl,Th (by omega)]
   subst B;obtain⟨vs,U,N,Q,V,E,F⟩:=hr.aU;have J:=hr.2.1;obtain⟨S,hk,p,f⟩:=Jc g (ks:=(rQ P t).set ax .x) (ax:=ax) (by omega) Q (λk hk=>by
    rw [SW] at hk;simp only [if_true] at hk;split at hk
    .simpa using hk.symm
    .cases hk) hk
   refine⟨_, .agg vs.toArray,hk, ?_, ?_⟩
   .rw [UE];exact Br q hb _ _ vs (by omega) N
   .simp only [ai];refine⟨vs,rfl,aw.sO (by simp [p]) λj a v d hv=> ?_,λu M=> ?_⟩
    .rw [SW] at d;by_cases b:ax=j
     .subst b;rw [if_pos rfl] at d;split at d
      .simp only [RJ] at d;subst d;rw [E] at hv;cases hv;simp only [ai];exact F
      .cases d
     .rw [if_neg b,Sp] at d;obtain⟨x,o,rfl⟩:=Uh.1 d;simp only [ai];exact f j x v (λe=>b e.symm) o hv
    .obtain⟨j,n⟩:=UX.1 M;by_cases b:j=ax
     .subst b;rw [E] at n;cases n;exact hs.gone _ _ _ F
     .have z:j < S.length:=by have:=(RS.1 n).1;omega
      exact(f j _ u b (RR z) n).pc
  .cases hk
theorem Gf{R:Type}{t:TypeId}{a:AV}{Z:Value}{K:AV->Option R}{r:R}(hs:HS c w s.h ρ O)(f:ai w (AA c w O) ρ a Z)(g:cc=none\/cc=some true)(h:jr P s cc t a K=some r):
  ∃av v,K av=some r/\(Instr.loadAt t Z).run P w= .ok v w/\ai w (AA c w O) ρ av v:=by
 unfold jr at h;cases z:bB P t
 .simp [z] at h
 simp only [z,cond_true] at h;split at h
 .rename_i i off;split at h
  .rename_i cs hi;obtain⟨b,arr,N,h1,E,V,J,B,h6⟩:=yR hs hi;simp only [ai] at f;obtain⟨b',d,rfl⟩:=f;rw [h1] at d;simp only [RJ,Tv,SL] at d;obtain⟨rfl,_⟩:=d;obtain⟨av,v,m,G,H⟩:=Nx (b:=b) (off:=off) z (J.drop off) (λu hu=>B u (UA hu)) (λj v W=>h6 _ v (by rw [Vi] at W;exact W)) h;exact⟨av,v,m,by simpa [Instr.loadAt,Instr.sureAddr] using G,H⟩
  .rename_i l hi;obtain⟨b,h1,E,V,J⟩:=hs.af i _ hi;simp only [ai] at f;obtain⟨b',d,rfl⟩:=f;rw [h1] at d;simp only [RJ,Tv,SL] at d;obtain⟨rfl,_⟩:=d;have B:=J.drop off;rw [Sn] at B;obtain⟨av,v,m,G,H⟩:=wE z g B h;exact⟨av,v,m,by simpa [Instr.loadAt,Instr.sureAddr] using G,H⟩
  .simp at h
 .rename_i i sz k off;split at h
  .rename_i fz Y bb xs hi;split at h
   .rename_i y;subst y;replace h:=aI h g;obtain⟨cs,hk,h⟩:=h;obtain⟨v,h1,E⟩:=pr hs hi;simp only [ai] at f;obtain⟨b,o,L,cap,d,rfl⟩:=f;rw [h1] at d;simp only [RJ] at d;subst d;obtain⟨a',cap',m,G,H,g4,I⟩:=E;simp only [SX] at m;obtain⟨rfl,rfl,rfl⟩:=m;have M:k < xs.length:=(RS.1 hk).1;rcases I with I | ⟨af,off',arr,N,q,Q,S,U,p⟩
    .omega
    .simp only [RJ,SL] at q;obtain⟨rfl,rfl,_⟩:=q;obtain⟨_,F⟩:=p.get hk;obtain⟨av,v,q1,C,D⟩:=wE (ρ:=ρ) z g (F.drop off) h;exact⟨av,v,q1,by simpa [Instr.loadAt,Instr.sureAddr] using C,D⟩
   .simp at h
  .rename_i bb Y ax rsz nx es hi;split at h
   .rename_i y;subst y;replace h:=aI h g;obtain⟨e,hk,h⟩:=h;obtain⟨a,cap,h1,E,V,J,B⟩:=hs.af i _ hi;simp only [ai] at f;obtain⟨b,o,L,cap',d,rfl⟩:=f;rw [h1] at d;simp only [RJ,SX] at d;obtain⟨rfl,rfl,rfl⟩:=d;have M:k < es.length:=(RS.1 hk).1;rcases B with B | ⟨af,off',arr,N,q,Q,S,U,p⟩
    .omega
    .simp only [RJ,SL] at q;obtain⟨rfl,rfl,_⟩:=q;obtain⟨av,v,q1,C,D⟩:=Nu hs z g (p.get hk) h;exact⟨av,v,q1,by simpa [Instr.loadAt,Instr.sureAddr] using C,D⟩
   .simp at h
  .simp at h
 .rename_i i sz n k off;replace h:=Bo hs g h;obtain⟨rsz,bb,xs,v,h,hv,X⟩:=h;split at h
  .rename_i y;subst y;replace h:=aI h g;obtain⟨cs,hk,h⟩:=h;simp only [ai] at f;obtain⟨b,o,L,cap,d,rfl⟩:=f;rw [hv] at d;simp only [RJ] at d;subst d;obtain⟨a',cap',m,G,H,g4,I⟩:=X;simp only [SX] at m;obtain⟨rfl,rfl,rfl⟩:=m;have M:k < xs.length:=(RS.1 hk).1;rcases I with I | ⟨af,off',arr,N,q,Q,S,U,p⟩
   .omega
   .simp only [RJ,SL] at q;obtain⟨rfl,rfl,_⟩:=q;obtain⟨_,F⟩:=p.get hk;obtain⟨av,v,q1,C,D⟩:=wE (ρ:=ρ) z g (F.drop off) h;exact⟨av,v,q1,by simpa [Instr.loadAt,Instr.sureAddr] using C,D⟩
  .simp at h
 .rename_i x;replace h:=aI h g;obtain⟨cs,hk,h⟩:=h;have:=T.wV hk;subst this;simp only [ai,au] at f;obtain⟨af,off,rfl,h1,E⟩:=f;obtain⟨av,v,q1,C,D⟩:=wE (ρ:=ρ) z g E h;exact⟨av,v,q1,by simpa [Instr.loadAt,Instr.sureAddr] using C,D⟩
 .simp at h
theorem zS{t:TypeId}{f:Nat}{p:Nat×TypeId}(h:sq P t f=some p):∃a x,P.underlying t=some (.struct a)/\a[f]? =some x/\p= (x.offset,x.type)/\bB P p.2=true:=by
 unfold sq at h;split at h
 .rename_i a d;split at h
  .rename_i x e;cases b:bB P x.type
   .simp [b] at h
   .simp only [b,cond_true,RJ] at h;subst h;exact⟨a,x,d,e,rfl,b⟩
  .simp at h
 .simp at h
theorem vK{t e:TypeId}(h:mA P t=some e):P.underlying t=some (.slice e)/\bB P e=true:=by
 unfold mA at h;split at h
 .rename_i b d;cases a:bB P b
  .simp [a] at h
  .simp only [a,cond_true,RJ] at h;subst h;exact⟨d,a⟩
 .simp at h
theorem C8{t:TypeId}{p:Nat×TypeId}(h:uV P t=some p):P.underlying t=some (.array p.1 p.2)/\bB P p.2=true:=by
 unfold uV at h;split at h
 .rename_i n b d;cases a:bB P b
  .simp [a] at h
  .simp only [a,cond_true,RJ] at h;subst h;exact⟨d,a⟩
 .simp at h
theorem MI{R:Type}{t:TypeId}{x:AV}{m:Value}{f:Nat}{K:AV->Option R}{r:R}(a:ai w A ρ x m)(B:cc=none\/cc=some true)(h:qo P cc t x f K=some r):
  ∃av v,K av=some r/\(Instr.fieldAt t m f).run P w= .ok v w/\ai w A ρ av v:=by
 unfold qo at h;split at h
 .rename_i off u C;obtain⟨D,y,h1,q,l,z⟩:=zS C;simp only [SA] at l;obtain⟨rfl,rfl⟩:=l;split at h
  .simp at h
  .rename_i hz;have d:∀b o,(Instr.fieldAt t (.pointer (some ⟨b,o,none⟩)) f).run P w= .ok (.pointer (some ⟨b,o+y.offset,none⟩)) w:=by
    intro b o;simp [Instr.fieldAt,run_underlying h1,q,Instr.sureAddr,fieldPlace,iB z,hz,gh]
   split at h
   .rename_i j o;simp only [ai] at a;obtain⟨b,e,rfl⟩:=a;exact⟨_,_,h,d _ _,by simp only [ai];exact⟨b,e,rfl⟩⟩
   .rename_i j sz k o;simp only [ai] at a;obtain⟨b,i,L,cap,e,rfl⟩:=a;exact⟨_,_,h,d _ _,by simp only [ai];exact⟨b,i,L,cap,e,by rw [Uv]⟩⟩
   .rename_i j sz n k o;simp only [ai] at a;obtain⟨b,i,L,cap,e,rfl⟩:=a;exact⟨_,_,h,d _ _,by simp only [ai];exact⟨b,i,L,cap,e,by rw [Uv]⟩⟩
   .rename_i y';replace h:=aI h B;obtain⟨cs,hk,h⟩:=h;have:=T.wV hk;subst this;simp only [ai,au] at a;obtain⟨af,o,rfl,g,p⟩:=a;refine⟨_,_,h,d _ _, ?_⟩;simp only [ai,au];refine⟨af,_,rfl, ?_,p.drop _⟩;rcases g with rfl | g
    .exact .inl (by simp)
    .exact .inr g
   .simp at h
 .simp at h
theorem nI{R:Type}{i:Int}{n:Nat}{K:Option R}{r:R}(b:cc=none\/cc=some true)(h:jo cc i n K=some r): 0<=i/\i < n/\K=some r:=by
 unfold jo at h;replace h:=aI h b;obtain⟨_,h1,h⟩:=h;split at h1
 .rename_i a;exact⟨a.1,a.2,h⟩
 .simp at h1
theorem Na{R:Type}{t:TypeId}{x:AV}{vx:Value}{i:Int}{ki:IntKind}{K:AV->Option R}{r:R}(hs:HS c w s.h ρ O)(d:ai w (AA c w O) ρ x vx)(u:cc=none\/cc=some true)(h:iU P s cc t x i K=some r):
  ∃av v,K av=some r/\(Instr.indexAt t vx (.int ki i)).run P w= .ok v w/\ai w (AA c w O) ρ av v:=by
 unfold iU at h;split at h
 .rename_i e I;obtain⟨J,E⟩:=vK I;have f:∀b o len cap,0<=i->i < (len:Nat)->(Instr.indexAt t (.slice (some ⟨b,o,none⟩) len cap) (.int ki i)).run P w= .ok (.pointer (some ⟨b,o+i.toNat * P.cellsOf e,none⟩)) w:=by
   intro b o len cap l h1;simp [Instr.indexAt,asIntOf,run_underlying J,l,h1,iB E,gh]
  split at h
  .rename_i j;split at h
   .rename_i fz sz bb xs D;split at h
    .rename_i q;subst q;obtain⟨l,h1,h⟩:=nI u h;obtain⟨v,g,m⟩:=pr hs D;simp only [ai] at d;rw [g] at d;simp only [RJ] at d;subst d;obtain⟨H,cap',q1,X,Y,Z,z⟩:=m;rcases z with z | ⟨af,off',arr,S,C,M,N,Q,F⟩
     .omega
     .subst C;subst q1;exact⟨_,_,h,f _ _ _ _ l h1,by simp only [ai];exact⟨af,off',_,_,g,by simp⟩⟩
    .simp at h
   .rename_i bb sz ax rsz nx es D;split at h
    .rename_i q;subst q;obtain⟨l,h1,h⟩:=nI u h;obtain⟨a,cap,g,m,U,g4,G⟩:=hs.af j _ D;simp only [ai] at d;rw [g] at d;simp only [RJ] at d;subst d;rcases G with G | ⟨af,off',arr,S,C,M,N,Q,F⟩
     .omega
     .subst C;exact⟨_,_,h,f _ _ _ _ l h1,by simp only [ai];exact⟨af,off',_,_,g,by simp⟩⟩
    .simp at h
   .simp at h
  .rename_i j n;replace h:=Bo hs u h;obtain⟨rsz,bb,xs,v,h,hv,W⟩:=h;split at h
   .rename_i q;subst q;obtain⟨l,h1,h⟩:=nI u h;simp only [ai] at d;rw [hv] at d;simp only [RJ] at d;subst d;obtain⟨H,cap',q1,X,Y,Z,z⟩:=W;rcases z with z | ⟨af,off',arr,S,C,M,N,Q,F⟩
    .omega
    .subst C;subst q1;exact⟨_,_,h,f _ _ _ _ l h1,by simp only [ai];exact⟨af,off',_,_,hv,by simp⟩⟩
   .simp at h
  .rename_i j sz off n;split at h
   .rename_i fz sz' bb xs D;split at h
    .rename_i q;obtain⟨rfl,rfl⟩:=q;obtain⟨l,h1,h⟩:=nI u h;obtain⟨v,g,m⟩:=pr hs D;simp only [ai] at d;obtain⟨a,L,cap,H,B,e2,e3,rfl,e4⟩:=d;rw [g] at B;simp only [RJ] at B;subst B;obtain⟨a'',cap'',q1,X,Y,Z,z⟩:=m;simp only [SX] at q1;obtain⟨rfl,rfl,rfl⟩:=q1;rcases z with z | ⟨af,off',arr,S,C,M,N,Q,F⟩
     .omega
     .subst C;have ea:H=some ⟨af,off'+off * P.cellsOf e,none⟩:=by
       rcases e4 with⟨rfl,rfl⟩ | ⟨rfl,_⟩ | ⟨b,o,e5,e6⟩
       .simp
       .omega
       .simp only [RJ,SL] at e5;obtain⟨rfl,rfl,_⟩:=e5;exact e6
      subst ea;refine⟨_,_,h,f _ _ _ _ l h1, ?_⟩;simp only [ai];exact⟨af,off',_,_,g,by congr 3;rw [Ui];omega⟩
    .simp at h
   .simp at h
  .rename_i y;replace h:=aI h u;obtain⟨p,hp,h⟩:=h;obtain⟨l,h1,h⟩:=nI u h;replace h:=aI h u;obtain⟨cs,hk,h⟩:=h;rcases T.o9 hp with rfl | ⟨rfl,V⟩
   .simp only [ai,au] at d;rcases d with⟨_,e,_⟩ | ⟨_,af,off,sp,cap,rfl,g,m,U⟩
    .rw [e] at h1;simp at h1;omega
    .rcases m with m | ⟨rfl,m⟩
     .rw [m] at hk;simp at hk
     refine⟨_,_,h,f _ _ _ _ l h1, ?_⟩;obtain⟨g4,G⟩:=U.get hk;simp only [ai,au];exact⟨af,_,rfl, .inr m,G⟩
   .rw [V] at h1;simp at h1;omega
  .simp at h
 .split at h
  .rename_i n e I;obtain⟨J,E⟩:=C8 I;obtain⟨l,h1,h⟩:=nI u h;have f:∀b o,(Instr.indexAt t (.pointer (some ⟨b,o,none⟩)) (.int ki i)).run P w= .ok (.pointer (some ⟨b,o+i.toNat * P.cellsOf e,none⟩)) w:=by
    intro b o;simp [Instr.indexAt,asIntOf,run_underlying J,Instr.sureAddr,l,h1,iB E,gh]
   split at h
   .rename_i j off;simp only [ai] at d;obtain⟨b,B,rfl⟩:=d;exact⟨_,_,h,f _ _,by simp only [ai];exact⟨b,B,rfl⟩⟩
   .rename_i j sz k off;simp only [ai] at d;obtain⟨b,o',L,cap,B,rfl⟩:=d;exact⟨_,_,h,f _ _,by simp only [ai];exact⟨b,o',L,cap,B,by rw [Uv]⟩⟩
   .rename_i y;replace h:=aI h u;obtain⟨cs,hk,h⟩:=h;have:=T.wV hk;subst this;simp only [ai,au] at d;obtain⟨af,o,rfl,g,m⟩:=d;refine⟨_,_,h,f _ _, ?_⟩;simp only [ai,au];refine⟨af,_,rfl, ?_,m.drop _⟩;rcases g with rfl | g
    .exact .inl (by simp)
    .exact .inr g
   .simp at h
  .simp at h
end
open Go Go.IntKind
section
variable {P:Program} {w w':World} {A A':Nat->Prop} {c:Ctx} {ρ:Id->Option Value} {O:Id->Option Nat} {s:St} {cc:Option Bool}
theorem Nl{R:Type}{t ty:TypeId}{ts:Array TypeId}{x:AV}{u:Value}{K:AV->Option R}{r:R}(hs:HS c w s.h ρ O)(d:ai w (AA c w O) ρ x u)(l:cc=none\/cc=some true)(h:mK P s cc t x K=some r)
  (g:ts[0]? =some t):∃av v,K av=some r/\(Builtin.len_ ts ty #[u]).run P w= .ok v w/\ai w (AA c w O) ρ av v:=by
 unfold mK at h;split at h
 .rename_i i;split at h
  .rename_i y;replace h:=aI h l;obtain⟨b,hb,h⟩:=h;have:=T.jB hb;subst this;simp only [ai,au] at d;subst d;exact⟨_,_,h,by simp [Builtin.len_,g,run_underlying i];rfl,by simp only [ai];exact fJ _ _ _ _⟩
  .simp at h
 .rename_i n e i;exact⟨_,_,h,by simp [Builtin.len_,g,run_underlying i];rfl,by simp only [ai];exact fJ _ _ _ _⟩
 .rename_i e i;have f:∀a n cap,(Builtin.len_ ts ty #[.slice a n cap]).run P w= .ok (goInt n) w:=by
   intro a n cap;simp [Builtin.len_,g,run_underlying i]
  split at h
  .rename_i j;split at h
   .rename_i F sz bb xs m;obtain⟨v,k,o,cap',q1,I,J,M,N⟩:=pr hs m;simp only [ai] at d;rw [k] at d;simp only [RJ] at d;subst d;subst q1;exact⟨_,_,h,f _ _ _,by simp only [ai];exact fJ _ _ _ _⟩
   .rename_i bb sz ax rsz nx es m;obtain⟨a,cap,k,_⟩:=hs.af j _ m;simp only [ai] at d;rw [k] at d;simp only [RJ] at d;subst d;exact⟨_,_,h,f _ _ _,by simp only [ai];exact fJ _ _ _ _⟩
   .simp at h
  .rename_i j n;replace h:=Bo hs l h;obtain⟨rsz,bb,xs,v,h,hv,o,cap',q1,_⟩:=h;simp only [ai] at d;rw [hv] at d;simp only [RJ] at d;subst d;subst q1;exact⟨_,_,h,f _ _ _,by simp only [ai];exact fJ _ _ _ _⟩
  .rename_i j sz off n;simp only [ai] at d;obtain⟨a,L,cap,o,C,D,e3,rfl,E⟩:=d;exact⟨_,_,h,f _ _ _,by simp only [ai];exact fJ _ _ _ _⟩
  .rename_i y;replace h:=aI h l;obtain⟨p,z,h⟩:=h;rcases T.o9 z with rfl | ⟨rfl,q⟩
   .simp only [ai,au] at d;rcases d with⟨_,e,rfl⟩ | ⟨_,af,off,B,cap,rfl,k,G,H⟩
    .refine⟨_,_,h,f _ _ _, ?_⟩;simp only [ai,e];exact fJ _ _ _ _
    .exact⟨_,_,h,f _ _ _,by simp only [ai];exact fJ _ _ _ _⟩
   .simp only [ai,au] at d;rw [q] at h;rcases d with⟨_,rfl⟩ | ⟨_,af,off,B,rfl⟩ <;> exact⟨_,_,h,f _ _ _,by simp only [ai];exact fJ _ _ _ _⟩
  .simp at h
 .simp at h
theorem yH{x:T}{n:Int}(h:il.anyInt x=some n):∃k,x= .int k n:=by cases x <;> simp_all [il.anyInt]
def iI(b:Option Int)(v:Option Value):Prop:=match b,v with
 | none,none=>True
 | some n,some (.int _ m)=>m=n
 | _,_=>False
theorem yQ{R:Type}{a:Act}{g:Option Gs}{o:Option Operand}{K:Option Int->Option R}{r:R}(f:SS w A ρ s.t a.tmps)(hr:jG a.tmps g)(e:cc=none\/cc=some true)(h:il s cc g o K=some r):
  ∃b,K b=some r/\iI b (o.map a.eval):=by
 unfold il at h;split at h
 .exact⟨none,h,trivial⟩
 .rename_i o;cases d:(s.get g o).t? with
  | none=>simp [d] at h
  | some x=>simp only [d,R2] at h;replace h:=aI h e;obtain⟨n,hn,h⟩:=h;obtain⟨k,rfl⟩:=yH hn;have:=SS.get (h:=s.h) f hr o;rw [show(⟨s.t,s.h⟩:St)=s from rfl,AV.lf d] at this;simp only [ai,au] at this;exact⟨some n,h,by simp [iI,this]⟩
theorem wm{a hi n:Int}(h:cU a hi n=some ()): 0<=a/\a<=hi/\hi<=n:=by
 unfold cU at h;split at h
 .assumption
 .simp at h
theorem tU{v:Option Value}(h:iI none v):v=none:=by cases v <;> simp_all [iI]
theorem pK{n:Int}{v:Option Value}(h:iI (some n) v):∃k,v=some (.int k n):=by
 cases v with
 | none=>simp [iI] at h
 | some v=>cases v <;> simp_all [iI]
theorem qW(k:IntKind)(n:Int)(y:Nat)(a:BoundsCode)(b: 0<=n)(h1:n<=y):(Instr.sliceBound (.int k n) y a).run P w= .ok n.toNat w:=run_sliceBound w k n y a b h1
theorem H4(o:Bool){b hi:Option Int}{g f:Option Value}{len cap:Nat}(hl:iI b g)(l:iI hi f)(h1: 0<=b.getD 0)(d:b.getD 0<=hi.getD len)(i:hi.getD len<=cap):
  (Instr.sliceBounds o len cap g f none).run P w= .ok ((b.getD 0).toNat,(hi.getD len).toNat,cap) w:=by
 cases hi with
 | none=>
  have:=tU l;subst this;simp only [Option.getD_none] at d i⊢;cases b with
  | none=>have:=tU hl;subst this;simp [Instr.sliceBounds]
  | some n=>obtain⟨k,rfl⟩:=pK hl;simp only [SJ] at h1 d⊢;have e:=qW (P:=P) (w:=w) k n len .sliceB h1 d;simp [Instr.sliceBounds,e]
 | some m=>
  obtain⟨p,rfl⟩:=pK l;simp only [SJ] at d i⊢;have j:∀a,(Instr.sliceBound (.int p m) cap a).run P w= .ok m.toNat w:=λa=>qW p m cap a (by omega) i;cases b with
  | none=>have:=tU hl;subst this;simp [Instr.sliceBounds,j]
  | some n=>obtain⟨k,rfl⟩:=pK hl;simp only [SJ] at h1 d⊢;have e:=qW (P:=P) (w:=w) k n m.toNat .sliceB h1 (by omega);simp [Instr.sliceBounds,e,j]
theorem P9{R:Type}{t:TypeId}{x:AV}{vx:Value}{g hi mx:Option Int}{N M D:Option Value}{K:AV->Option R}{r:R}(hs:HS c w s.h ρ O)(q:ai w (AA c w O) ρ x vx)(H:cc=none\/cc=some true)
  (hl:iI g N) (hh:iI hi M) (hm:iI mx D) (h:m5 P s cc t x g hi mx K=some r):
  ∃av v,K av=some r/\(Instr.sliceAt t vx N M D).run P w= .ok v w/\ai w (AA c w O) ρ av v:=by
 unfold m5 at h;split at h
 .rename_i X;split at h
  .rename_i y;replace h:=aI h H;obtain⟨b,hb,h⟩:=h;have:=T.jB hb;subst this;simp only [ai,au] at q;subst q;replace h:=aI h H;obtain⟨_,hb,h⟩:=h;obtain⟨h1,l,B⟩:=wm hb;have Y:D=none:=by cases D with | none=>rfl | some v=>simp [iI] at hm
   subst Y;refine⟨_,_,h, ?_,by simp only [ai];exact kX _ _ _⟩;have:=H4 (P:=P) (w:=w) false (len:=b.size) (cap:=b.size) hl hh h1 l B;simp [Instr.sliceAt,Instr.slice,run_underlying X,this]
  .simp at h
 .rename_i e X;split at h
  .have Y:D=none:=by cases D with | none=>rfl | some v=>simp [iI] at hm
   subst Y
   have z:bB P e=true->∀(a:Option Addr) (len cap:Nat),0<=g.getD 0->g.getD 0<=hi.getD len->hi.getD len<=cap->
     (Instr.sliceAt t (.slice a len cap) N M none).run P w= .ok (.slice (if cap= (g.getD 0).toNat then a else a.map (·.add ((g.getD 0).toNat * P.cellsOf e))) ((hi.getD len).toNat - (g.getD 0).toNat) (cap - (g.getD 0).toNat)) w:=by
    intro f a len cap h1 l B;have:=H4 (P:=P) (w:=w) true hl hh h1 l B;simp [Instr.sliceAt,Instr.slice,run_underlying X,this,iB f]
   split at h
   .rename_i j;split at h
    .rename_i fz sz bb xs W;split at h
     .rename_i J;obtain⟨J,f⟩:=J;subst J;replace h:=aI h H;obtain⟨_,hb,h⟩:=h;obtain⟨h1,l,B⟩:=wm hb;obtain⟨v,F,E,cap',q1,q2,q3,q4,Q⟩:=pr hs W;simp only [ai] at q;rw [F] at q;simp only [RJ] at q;subst q;subst q1;refine⟨_,_,h,z f _ _ _ h1 l (by omega), ?_⟩;simp only [ai];refine⟨E,_,cap',_,F,by omega,q2,rfl, ?_⟩;by_cases e0:(g.getD 0).toNat=0
      .left;refine⟨e0, ?_⟩;rw [e0];split
       .rfl
       .cases E <;> simp [Addr.add]
      .by_cases i:cap'= (g.getD 0).toNat
       .right;left;rw [if_pos i];exact⟨i.symm,VK,q4⟩
       .right;right;rw [if_neg i];rcases Q with Q | ⟨af,off',arr,t',q6,_⟩
        .omega
        .subst q6;exact⟨af,off',rfl,by simp [gh]⟩
     .simp at h
    .simp at h
   .rename_i j sz off n;split at h
    .rename_i fz sz' bb xs W;split at h
     .rename_i J;obtain⟨rfl,rfl,f⟩:=J;replace h:=aI h H;obtain⟨_,hb,h⟩:=h;obtain⟨h1,l,B⟩:=wm hb;simp only [ai] at q;obtain⟨a,L,cap,E,i,e2,e3,rfl,e4⟩:=q;obtain⟨v,F,a'',cap'',q1,q2,q3,q4,Q⟩:=pr hs W;rw [F] at i;simp only [RJ] at i;subst i;simp only [SX] at q1;obtain⟨rfl,rfl,rfl⟩:=q1;refine⟨_,_,h,z f _ _ _ h1 l (by omega), ?_⟩;simp only [ai];refine⟨a,_,cap,_,F,by omega,e3,by congr 1;omega, ?_⟩;by_cases e0:(g.getD 0).toNat=0
      .have:(if cap - off= (g.getD 0).toNat then E else E.map (·.add ((g.getD 0).toNat * P.cellsOf e)))=E:=by
        rw [e0];split
        .rfl
        .cases E <;> simp [Addr.add]
       rw [this,e0,UE];exact e4
      .by_cases e5:cap - off= (g.getD 0).toNat
       .right;left;rw [if_pos e5];refine⟨by omega, ?_, ?_⟩
        .rcases e4 with⟨_,rfl⟩ | ⟨_,e6,_⟩ | ⟨b,o,rfl,rfl⟩
         .exact VK
         .exact e6
         .simp
        .trivial
       .right;right;rw [if_neg e5];rcases Q with Q | ⟨af,off',arr,t',q6,_⟩
        .omega
        .subst q6;rcases e4 with⟨Z,rfl⟩ | ⟨Z,_⟩ | ⟨b,o,e6,rfl⟩
         .subst Z;exact⟨af,off',rfl,by simp [gh]⟩
         .omega
         .exact⟨b,o,e6,by simp [gh,Ui,Uv]⟩
     .simp at h
    .simp at h
   .rename_i y;split at h
    .rename_i f;replace h:=aI h H;obtain⟨p,hp,h⟩:=h;replace h:=aI h H;obtain⟨_,hb,h⟩:=h;obtain⟨h1,l,B⟩:=wm hb;rcases T.o9 hp with rfl | ⟨rfl,hp2⟩
     .simp only [ai,au] at q;rcases q with⟨i,e,rfl⟩ | ⟨i,af,off,C,cap,rfl,F,G,g3⟩
      .rw [e] at l B h;refine⟨_,_,h,z f _ _ _ (by simpa using h1) (by simpa using l) (by simpa using B), ?_⟩;simp only [Sx,Int.natCast_zero] at l B;have e5:(g.getD 0).toNat=0:=by omega
       have e6:(hi.getD ((0:Nat):Int)).toNat=0:=by
        have:hi.getD ((0:Nat):Int)=hi.getD 0:=by simp
        rw [this];omega
       simp only [ai,au,sub,VU,VW];left;refine⟨i,trivial, ?_⟩;rw [e6];simp
      .refine⟨_,_,h,z f _ _ _ h1 l (by omega), ?_⟩;simp only [ai,au];right;refine⟨i, ?_⟩;by_cases e5:cap= (g.getD 0).toNat
       .rw [if_pos e5];have e6:(hi.getD ((p.2.length:Nat):Int)).toNat - (g.getD 0).toNat=0:=by omega
        refine⟨af,off,C,cap - (g.getD 0).toNat, ?_, ?_, .inl ?_, ?_⟩
        .simp only [sub,e6,Uc,Sx]
        .simp only [sub,e6,Uc,Sx];omega
        .simp [sub,e6]
        .simp [sub,e6,aR]
       .rw [if_neg e5];have I:(sub (g.getD 0) (hi.getD ((p.2.length:Nat):Int)) p.2).length= (hi.getD ((p.2.length:Nat):Int)).toNat - (g.getD 0).toNat:=by
         simp only [sub,SD,Ts];omega
        rcases G with G | ⟨G,g4⟩
        .have Z:(g.getD 0).toNat=0:=by rw [G] at B;simp only [Sx] at B;rw [G] at l;simp only [Sx] at l;omega
         refine⟨af,off,C,cap - (g.getD 0).toNat, ?_, ?_, .inl (by simp [sub,G]),by simp [sub,G,aR]⟩
         .rw [I,Z];simp [Addr.add]
         .rw [I];omega
        .subst G;refine⟨af,off+ (g.getD 0).toNat * P.cellsOf e,none,cap - (g.getD 0).toNat, ?_, ?_, .inr ⟨rfl,g4⟩, ?_⟩
         .rw [I];simp only [TZ,gh]
         .rw [I];omega
         .exact(g3.drop _).take _
     .rw [hp2] at l B h;simp only [ai,au] at q;simp only [Sx,Int.natCast_zero] at l B;have e5:(g.getD 0).toNat=0:=by omega
      have e6:(hi.getD ((0:Nat):Int)).toNat=0:=by
       have:hi.getD ((0:Nat):Int)=hi.getD 0:=by simp
       rw [this];omega
      rcases q with⟨i,rfl⟩ | ⟨i,af,off,C,rfl⟩
      .refine⟨_,_,h,z f _ _ _ (by simpa using h1) (by simpa using l) (by simpa using B), ?_⟩;simp only [ai,au,sub,VU,VW];left;refine⟨i,trivial, ?_⟩;rw [e6];simp
      .refine⟨_,_,h,z f _ _ _ (by simpa using h1) (by simpa using l) (by simpa using B), ?_⟩;simp only [ai,au,sub,VU,VW,aR];right;refine⟨i,af,off,C,0, ?_,by simp, .inl trivial,trivial⟩;rw [e5,e6];simp
    .simp at h
   .simp at h
  .rename_i m;obtain⟨km,rfl⟩:=pK hm
   have z:bB P e=true->g.getD 0=0->hi.getD 1=0->m=0->∀(a:Option Addr) (len cap:Nat),
     (Instr.sliceAt t (.slice a len cap) N M (some (.int km m))).run P w= .ok (.slice a 0 0) w:=by
    intro f h1 l B a len cap;cases hi with
    | none=>simp at l
    | some hn=>
     obtain⟨kh,rfl⟩:=pK hh;simp only [SJ] at l;subst l;subst B;have i:∀k,(Instr.sliceBound (.int km 0) cap k).run P w= .ok 0 w:=λk=>qW km 0 cap k (by omega) (by omega);have e2:∀k,(Instr.sliceBound (.int kh 0) 0 k).run P w= .ok 0 w:=λk=>qW kh 0 0 k (by omega) (by omega);cases g with
     | none=>have:=tU hl;subst this;simp [Instr.sliceAt,Instr.slice,run_underlying X,Instr.sliceBounds,i,e2,iB f]
     | some ln=>obtain⟨kl,rfl⟩:=pK hl;simp only [SJ] at h1;subst h1;have e3:∀k,(Instr.sliceBound (.int kl 0) 0 k).run P w= .ok 0 w:=λk=>qW kl 0 0 k (by omega) (by omega);simp [Instr.sliceAt,Instr.slice,run_underlying X,Instr.sliceBounds,i,e2,e3,iB f]
   have zs:∀{a b d:Int} {u:Unit},x7 a b d=some u->a=0/\b=0/\d=0:=by
    intro a b d u hz;unfold x7 at hz;split at hz
    .assumption
    .simp at hz
   split at h
   .rename_i y;split at h
    .rename_i f;replace h:=aI h H;obtain⟨p,hp,h⟩:=h;replace h:=aI h H;obtain⟨_,hz,h⟩:=h;obtain⟨S,U,V⟩:=zs hz;rcases T.o9 hp with rfl | ⟨rfl,hp2⟩
     .simp only [ai,au] at q;rcases q with⟨i,e,rfl⟩ | ⟨i,af,off,C,cap,rfl,F,G,g3⟩
      .exact⟨_,_,h,z f S U V _ _ _,by simp only [ai,au];exact .inl ⟨i,trivial⟩⟩
      .exact⟨_,_,h,z f S U V _ _ _,by simp only [ai,au];exact .inr ⟨i,af,off,C,rfl⟩⟩
     .simp only [ai,au] at q;rcases q with⟨i,rfl⟩ | ⟨i,af,off,C,rfl⟩
      .exact⟨_,_,h,z f S U V _ _ _,by simp only [ai,au];exact .inl ⟨i,trivial⟩⟩
      .exact⟨_,_,h,z f S U V _ _ _,by simp only [ai,au];exact .inr ⟨i,af,off,C,rfl⟩⟩
    .simp at h
   .rename_i j;split at h
    .rename_i fz sz bb xs W;split at h
     .simp at h
     .rename_i f;simp only [Bool.not_eq_false] at f;replace h:=aI h H;obtain⟨_,hz,h⟩:=h;obtain⟨S,U,V⟩:=zs hz;obtain⟨v,F,E,cap',q1,q2,q3,q4,Q⟩:=pr hs W;simp only [ai] at q;rw [F] at q;simp only [RJ] at q;subst q;subst q1;refine⟨_,_,h,z f S U V _ _ _, ?_⟩;simp only [ai,au];cases bb
      .right;cases E with
       | none=>simp at q3
       | some x=>obtain⟨b,o,C⟩:=x;exact⟨rfl,b,o,C,rfl⟩
      .left;exact⟨rfl,by rw [q3.2 rfl]⟩
    .simp at h
   .simp at h
 .simp at h
end
open Go Go.IntKind
section
variable {P:Program} {w w':World} {A A':Nat->Prop} {c:Ctx} {ρ:Id->Option Value} {O:Id->Option Nat} {s:St} {cc:Option Bool} {h:Id->Option ab}
def qR(v:AV)(i:Id):Prop:=v= .own i\/(∃sz off n,v= .part i sz off n)\/∃off,v= .ref i off
theorem mZ{i:Id}{a b:Bool}{sz:Nat}{l:List (List T)}(hs:HS c w h ρ O)(hi:h i=some (.sl a sz b l)):∃v,ρ i=some v/\cg w (AA c w O) sz b l v (λaf=>if a=true then AA c w O af else O i=some af):=by obtain⟨v,h1,d,_⟩:=hs.af i _ hi;exact⟨v,h1,d⟩
theorem l8{v:AV}{x:T}{u:Value}(hs:HS c w h ρ O)(hv:ai w (AA c w O) ρ v u)(d:cO h v=some x)
  (k:∀b,AA c w O b->A' b) (J:∀i af,qR v i->O i=some af->A' af):au w A' x u:=by
 have mono:∀(t:T) (v:Value),au w (AA c w O) t v->au w A' t v:=λt v hr=>au.mono (λb hb=>⟨k b hb,rfl⟩) t v hr;cases v <;> simp only [cO,reduceCtorEq,RJ] at d
 case t y=>subst d;simp only [ai] at hv;exact mono _ _ hv
 case own i=>
  split at d
  .rename_i F sz b xs hi;simp only [RJ] at d;subst d;obtain⟨v',G,a,cap,q1,N,q,q4,e⟩:=mZ hs hi;simp only [ai] at hv;rw [G] at hv;simp only [RJ] at hv;subst hv;subst q1;simp only [au];cases b with
   | true=>
    left;have:a=none:=q.2 rfl;subst this;rcases e with e | ⟨af,off,arr,t,m,_⟩
    .have:xs= []:=R4.1 (by omega);subst this;subst e;exact⟨rfl,rfl,rfl⟩
    .cases m
   | false=>
    right;refine⟨rfl, ?_⟩;rcases e with e | ⟨af,off,arr,t,m,z,q8,q9,p⟩
    .have:xs= []:=R4.1 (by omega);subst this;cases a with
     | none=>simp at q
     | some y=>obtain⟨E,o,Q⟩:=y;exact⟨E,o,Q,cap,rfl,N, .inl rfl,by simp [aR]⟩
    .subst m;refine⟨af,off,_,cap,rfl,N, .inr ⟨rfl, ?_⟩,aR.mO (λb hb=>⟨k b hb,rfl⟩) af sz rfl off xs p⟩;cases F
     .exact J i af (.inl rfl) (by simpa using z)
     .exact k _ (by simpa using z)
  .simp at d
 case part i sz off n=>
  split at d
  .rename_i F C b xs hi;split at d
   .rename_i V;subst V;simp only [RJ] at d;subst d;obtain⟨v',G,a,cap,q1,N,q,q4,e⟩:=mZ hs hi;simp only [ai] at hv;obtain⟨R,L,W,D,f,X,e3,rfl,U⟩:=hv;rw [G] at f;simp only [RJ] at f;subst f;simp only [SX] at q1;obtain⟨rfl,rfl,rfl⟩:=q1;have M:((xs.drop off).take n).length=n:=by simp only [SD,Ts];omega
    simp only [au,M];have g:D=none↔R=none:=by
     rcases U with⟨_,rfl⟩ | ⟨_,e5,_⟩ | ⟨S,o,rfl,rfl⟩
     .exact VK
     .exact e5
     .simp
    cases b with
    | true=>
     left;have e5:R=none:=q.2 rfl;subst e5;rcases e with e | ⟨af,off',arr,t,m,_⟩
     .have e6:xs= []:=R4.1 (by omega);subst e6;subst e;simp only [Sx] at X;have Y:n=0:=by omega
      subst Y;rw [g.2 rfl];exact⟨rfl,by simp,by congr 1;omega⟩
     .cases m
    | false=>
     right;refine⟨rfl, ?_⟩;by_cases hn:n=0
     .subst hn;cases D with
      | none=>have:=g.1 rfl;simp [this] at q
      | some y=>obtain⟨E,o,Q⟩:=y;exact⟨E,o,Q,_,rfl,by omega, .inl (by simp),by simp [aR]⟩
     .rcases e with e | ⟨af,off',arr,t,m,z,q8,q9,p⟩
      .omega
      .subst m;have Z:D=some ⟨af,off'+off * C,none⟩:=by
        rcases U with⟨rfl,rfl⟩ | ⟨rfl,_⟩ | ⟨S,o,e5,e6⟩
        .simp
        .omega
        .simp only [RJ,SL] at e5;obtain⟨rfl,rfl,_⟩:=e5;exact e6
       subst Z;refine⟨af,_,_,_,rfl,by omega, .inr ⟨rfl, ?_⟩,(aR.mO (λb hb=>⟨k b hb,rfl⟩) af C rfl off' xs p).drop off |>.take n⟩;cases F
       .exact J i af (.inr (.inl ⟨_,_,_,rfl⟩)) (by simpa using z)
       .exact k _ (by simpa using z)
   .simp at d
  .simp at d
 case ref i off=>
  simp only [ai] at hv;obtain⟨S,f,rfl⟩:=hv;split at d
  .rename_i cs hi;obtain⟨l,hl,d⟩:=RK.1 d;simp only [RJ] at d;subst d;obtain⟨b,arr,t',h1,B,H,I,h5,h6⟩:=yR (s:=⟨λ_=>(none, .top),h⟩) hs hi;rw [h1] at f;simp only [RJ,Tv,SL] at f;obtain⟨rfl,_⟩:=f;simp only [au];refine⟨b,off,rfl, .inr (J i b (.inr (.inr ⟨_,rfl⟩)) B), ?_⟩;have hT:=aO.kT hl I;have key:∀(l:List T) (vs:List Value) (off:Nat),aO w (AA c w O) l vs->(∀j v,vs[j]? =some v->w.cell? ⟨b,off+j,none⟩=some v)->aP w A' b off l:=by
    intro l;induction l with
    | nil=>intro vs off _ _;simp [aP]
    | cons x l ih=>rintro vs off ⟨v,r,rfl,h1,B⟩ hv;simp only [aP];refine⟨⟨v,by simpa using hv 0 v rfl,mono _ _ h1⟩,ih r (off+1) B λj u K=> ?_⟩;have:=hv (j+1) u (by simpa using K);rw [show off+1+j=off+ (j+1) by omega];exact this
   have:=(key l _ 0 hT λj v K=>by rw [Sn];exact h6 j v K).drop off;rwa [Sn] at this
  .rename_i l hi;simp only [RJ] at d;subst d;obtain⟨b,h1,B,H,I⟩:=hs.af i _ hi;rw [h1] at f;simp only [RJ,Tv,SL] at f;obtain⟨rfl,_⟩:=f;simp only [au];refine⟨b,off,rfl, .inr (k b H), ?_⟩;have:=(aP.mono (λb hb=>⟨k b hb,rfl⟩) b H 0 l I).drop off;rwa [Sn] at this
  .simp at d
def HT(v:AV)(i:Id):Prop:=qR v i\/∃vs,v= .agg vs/\∃u∈vs,qR u i
theorem IK(hs:HS c w h ρ O)(e:∀b,AA c w O b->A' b):∀{vs:List AV} {xs:List T} {us:List Value},aw w (AA c w O) ρ vs us->kr h vs=some xs->
  (∀i af,(∃u∈vs,qR u i)->O i=some af->A' af)->aO w A' xs us
 | [],xs,us,hv,a,_=>by simp only [kr,RJ] at a;subst a;simpa [aw,aO] using hv
 | v::vs,xs,us,hv,a,f=>by
  simp only [kr] at a;cases h1:cO h v with
  | none=>simp [h1] at a
  | some x=>
   cases d:kr h vs with
   | none=>simp [h1,d] at a
   | some l=>simp only [h1,d,R2,RJ] at a;subst a;simp only [aw] at hv;obtain⟨u,r,rfl,g,j⟩:=hv;exact⟨u,r,rfl,l8 hs g h1 e (λi af hi=>f i af ⟨v,RL,hi⟩),IK hs e j d (λi af ⟨u,k,hi⟩=>f i af ⟨u,RM _ k,hi⟩)⟩
theorem Qe{v:AV}{x:T}{u:Value}(hs:HS c w h ρ O)(hv:ai w (AA c w O) ρ v u)(a:cO h v=some x):u.oneCell'=true/\u.cells= #[u]:=
 (l8 (A':=λ_=>True) hs hv a (λ_ _=>trivial) (λ_ _ _ _=>trivial)).pc
theorem Qf{v:AV}{xs:List T}{u:Value}(hs:HS c w h ρ O)(hv:ai w (AA c w O) ρ v u)(a:ko h v=some xs)(f:∀b,AA c w O b->A' b)
  (g:∀i af,HT v i->O i=some af->A' af):aO w A' xs u.cells.toList/\∀y∈u.cells.toList,y.oneCell'=true/\y.cells= #[y]:=by
 have one:∀x,cO h v=some x->xs= [x]->aO w A' xs u.cells.toList/\∀y∈u.cells.toList,y.oneCell'=true/\y.cells= #[y]:=by intro x d e;subst e;have hr:=l8 hs hv d f (λi af hi=>g i af (.inl hi));have h1:=Qe hs hv d;rw [h1.2];exact⟨⟨u,[],rfl,hr,rfl⟩,by intro y hy;simp at hy;subst hy;exact h1⟩
 cases v
 case agg vs=>simp only [ko] at a;simp only [ai] at hv;obtain⟨l,rfl,j,k⟩:=hv;refine⟨?_,by simpa [Value.cells] using k⟩;have:=IK hs f j a (λi af hi=>g i af (.inr ⟨vs,rfl,hi⟩));simpa [Value.cells] using this
 all_goals
  unfold ko at a;obtain⟨x,d,e⟩:=RK.1 a;exact one x d (Tx e).symm
def pC(p:Id×ab)(x:Option ab):Prop:=(∃sz b xs,p.2= .sl true sz b xs/\(x=some (.sl false sz b xs)\/x=some (.sl true sz b xs)))\/
 ∃l,p.2= .gX l/\((∃cs,x=some (.box cs)/\dZ cs=some l)\/x=some (.gX l))
def fP(h:Id->Option ab)(us:aE):Prop:= ∀p∈us,pC p (h p.1)
theorem pC.again{i:Id}{b m:ab}{x:Option ab}(h1:pC (i,b) x)(p:pC (i,m) x):m=b/\pC (i,m) (some b):=by
 rcases h1 with⟨sz,bb,xs,f,d⟩ | ⟨l,f,d⟩
 .rcases p with⟨j,g,k,e,a⟩ | ⟨q,e,a⟩
  .simp only at f e;have:j=sz/\g=bb/\k=xs:=by
    rcases d with rfl | rfl <;> rcases a with a | a <;> simp at a <;> simp [a]
   obtain⟨rfl,rfl,rfl⟩:=this;exact⟨by rw [f,e], .inl ⟨_,_,_,e, .inr (by rw [f])⟩⟩
  .rcases d with rfl | rfl <;> rcases a with⟨cs,a,_⟩ | a <;> simp at a
 .rcases p with⟨j,g,k,e,a⟩ | ⟨q,e,a⟩
  .rcases a with rfl | rfl <;> rcases d with⟨cs,d,_⟩ | d <;> simp at d
  .simp only at f e;have:q=l:=by
    rcases d with⟨cs,rfl,d⟩ | rfl
    .rcases a with⟨o,a,n⟩ | a
     .simp only [RJ,ab.box.injEq] at a;subst a;rw [d] at n;simpa using n.symm
     .simp at a
    .rcases a with⟨o,a,n⟩ | a
     .simp at a
     .simpa using a.symm
   subst this;exact⟨by rw [f,e], .inr ⟨_,e, .inr (by rw [f])⟩⟩
theorem HS.shut(hs:HS c w h ρ O){i:Id}{b:ab}(g:pC (i,b) (h i)):
  ∃a,Le w ρ O w ρ a/\HS c w (aA h i (some b)) ρ a/\(∀j,a j=O j\/a j=none)/\a i=none/\∀j,j≠i->a j=O j:=by
 have self:∀(f:Id->Option ab) (v:Option ab),f i=v->aA f i v=f:=by
  intro f v h;funext j;unfold aA;split
  .rename_i e;rw [e,h]
  .rfl
 have rel:∀{x:Option ab},HS c w (aA h i x) ρ (aA O i none)->∃a,Le w ρ O w ρ a/\HS c w (aA h i x) ρ a/\(∀j,a j=O j\/a j=none)/\a i=none/\∀j,j≠i->a j=O j:=by
  intro x m;exact⟨_,Le.release,m,λj=>by
   by_cases e:j=i
   .subst e;right;simp
   .left;exact al _ _ e,by simp,λj e=>al _ _ e⟩
 have same:h i=some b->O i=none->∃a,Le w ρ O w ρ a/\HS c w (aA h i (some b)) ρ a/\(∀j,a j=O j\/a j=none)/\a i=none/\∀j,j≠i->a j=O j:=by intro h1 k;exact⟨O,Le.refl,by rw [self _ _ h1];exact hs,λj=> .inl rfl,k,λ_ _=>rfl⟩
 rcases g with⟨sz,bb,xs,e,hi⟩ | ⟨l,e,hi⟩
 .simp only at e;subst e;rcases hi with hi | hi
  .exact rel (hs.freeze hi)
  .obtain⟨_,_,_,d⟩:=hs.af i _ hi;exact same hi (d rfl)
 .simp only at e;subst e;rcases hi with⟨cs,hi,hl⟩ | hi
  .exact rel (hs.MP hi hl)
  .obtain⟨_,_,d,_⟩:=hs.af i _ hi;exact same hi d
theorem su(v:AV):fP h (gu h v):=by
 intro p a;unfold gu at a;split at a
 .split at a
  .rename_i i sz b xs hi;simp only [RP] at a;subst a;exact .inl ⟨sz,b,xs,rfl, .inl hi⟩
  .cases a
 .split at a
  .rename_i i _ _ _ sz b xs hi;simp only [RP] at a;subst a;exact .inl ⟨sz,b,xs,rfl, .inl hi⟩
  .cases a
 .split at a
  .rename_i i _ cs hi;split at a
   .rename_i l hl;simp only [RP] at a;subst a;exact .inr ⟨l,rfl, .inl ⟨cs,hi,hl⟩⟩
   .cases a
  .cases a
 .cases a
theorem fP.append{us vs:aE}(h1:fP h us)(b:fP h vs):fP h (us++vs):=by
 intro p a;rcases RX.1 a with a | a
 .exact h1 p a
 .exact b p a
theorem zX:∀(vs:List AV),fP h (lS h vs)
 | []=>by intro p a;cases a
 | v::vs=>(su v).append (zX vs)
theorem zZ(v:AV):fP h (fX h v):=by
 unfold fX;split
 .exact zX _
 .exact su v
theorem xW{a:Type}(f:Id->Option a)(i:Id)(v:Option a)(h:f i=v):aA f i v=f:=by
 funext j;unfold aA;split
 .rename_i e;rw [e,h]
 .rfl
theorem HS.FB:∀{us:aE} {h:Id->Option ab} {O:Id->Option Nat},HS c w h ρ O->fP h us->
  ∃O',Le w ρ O w ρ O'/\HS c w (aG h us) ρ O'/\(∀i,O' i=O i\/O' i=none)/\(∀p∈us,O' p.1=none)/\∀i,(∀p∈us,p.1≠i)->O' i=O i
 | [],h,O,hs,_=>⟨O,Le.refl,hs,λi=> .inl rfl,by simp,λ_ _=>rfl⟩
 | (i,b)::us,h,O,hs,d=>by
  have hi:=d (i,b) RL;obtain⟨z,n,o,q,r,t⟩:=hs.shut hi;have g:fP (aA h i (some b)) us:=by
   intro p a;have f:=d p (RM _ a);by_cases e:p.1=i
   .obtain⟨j,x⟩:=p;simp only at e f;subst e;rw [aB];exact(hi.again f).2
   .rw [al _ _ e];exact f
  obtain⟨m,u,k2,l,v,y⟩:=HS.FB o g;refine⟨m,n.trans u,k2,λj=> ?_,λp a=> ?_,λj k=> ?_⟩
  .rcases l j with e | e
   .rw [e];exact q j
   .exact .inr e
  .rcases RV.1 a with rfl | a
   .rcases l i with e | e
    .rw [e];exact r
    .exact e
   .exact v p a
  .rw [y j (λp a=>k p (RM _ a)),t j (λe=>k (i,b) RL e.symm)]
theorem vX(hs:HS c w h ρ O){v:AV}{x:T}(a:cO h v=some x){i:Id}{af:Nat}(hi:qR v i)(d:O i=some af):∃p∈gu h v,p.1=i:=by
 rcases hi with rfl | ⟨sz,off,n,rfl⟩ | ⟨off,rfl⟩
 .simp only [cO] at a;split at a
  .rename_i f sz b xs hi;cases f
   .exact⟨(i, .sl true sz b xs),by simp [gu,hi],rfl⟩
   .obtain⟨_,_,_,e⟩:=hs.af i _ hi;rw [e rfl] at d;cases d
  .simp at a
 .simp only [cO] at a;split at a
  .rename_i f g b xs hi;cases f
   .exact⟨(i, .sl true g b xs),by simp [gu,hi],rfl⟩
   .obtain⟨_,_,_,e⟩:=hs.af i _ hi;rw [e rfl] at d;cases d
  .simp at a
 .simp only [cO] at a;split at a
  .rename_i cs hi;obtain⟨l,hl,_⟩:=RK.1 a;exact⟨(i, .gX l),by simp [gu,hi,hl],rfl⟩
  .rename_i l hi;obtain⟨_,_,e,_⟩:=hs.af i _ hi;rw [e] at d;cases d
  .simp at a
theorem FF(hs:HS c w h ρ O):∀{vs:List AV} {xs:List T},kr h vs=some xs->∀{i:Id} {af:Nat},(∃u∈vs,qR u i)->O i=some af->∃p∈lS h vs,p.1=i
 | [],_,_,i,af,⟨u,hu,_⟩,_=>by cases hu
 | v::vs,xs,a,i,af,⟨u,hu,hi⟩,f=>by
  simp only [kr] at a;cases h1:cO h v with
  | none=>simp [h1] at a
  | some x=>
   cases d:kr h vs with
   | none=>simp [h1,d] at a
   | some l=>
    rcases RV.1 hu with rfl | hu
    .obtain⟨p,b,e⟩:=vX hs h1 hi f;exact⟨p,RY _ b,e⟩
    .obtain⟨p,b,e⟩:=FF hs d ⟨u,hu,hi⟩ f;exact⟨p,RW _ b,e⟩
theorem MR(hs:HS c w h ρ O){v:AV}{xs:List T}(a:ko h v=some xs){i:Id}{af:Nat}(hi:HT v i)(d:O i=some af):∃p∈fX h v,p.1=i:=by
 rcases hi with hi | ⟨vs,rfl,hi⟩
 .have:∃x,cO h v=some x:=by
   rcases hi with rfl | ⟨_,_,_,rfl⟩ | ⟨_,rfl⟩ <;> exact(RK.1 a).elim λx b=>⟨x,b.1⟩
  obtain⟨x,b⟩:=this;obtain⟨p,f,e⟩:=vX hs b hi d;refine⟨p, ?_,e⟩;rcases hi with rfl | ⟨_,_,_,rfl⟩ | ⟨_,rfl⟩ <;> exact f
 .exact FF hs a hi d
theorem BJ{v:AV}{xs:List T}{u:Value}{O':Id->Option Nat}(hs:HS c w h ρ O)(hv:ai w (AA c w O) ρ v u)(g:ko h v=some xs)(le:Le w ρ O w ρ O')(k:∀i,O' i=O i\/O' i=none)
  (l:∀p∈fX h v,O' p.1=none):aO w (AA c w O') xs u.cells.toList/\∀y∈u.cells.toList,y.oneCell'=true/\y.cells= #[y]:=by
 refine Qf hs hv g (λb hb=>(le.A b hb).1) (λi af hi f=> ?_);obtain⟨p,m,e⟩:=MR hs g hi f;refine⟨.inr (hs.own i af f),hs.lt i af f,λj a=> ?_⟩;rcases k j with d | d
 .rw [d] at a;have:=hs.inj j i af a f;subst this;have:=l p m;rw [e,d,a] at this;cases this
 .rw [d] at a;cases a
theorem jw(hs:HS c w h ρ O){i:Id}{u:Value}(d:ρ i=some u):u.oneCell'=true/\u.cells= #[u]:=by
 cases hi:h i with
 | none=>
  cases hr:i.real with
  | true=>rw [(hs.bS i hr hi).1] at d;cases d
  | false=>
   cases i with
   | g i n=>exact hs.gone i n u d
   | _=>cases hr
 | some b=>
  have:=hs.af i b hi;cases b with
  | box cs=>obtain⟨b,_,_,h1,_⟩:=this;rw [d] at h1;simp only [RJ] at h1;subst h1;exact⟨rfl,rfl⟩
  | sl f sz b xs=>obtain⟨v,h1,⟨a,cap,e,_⟩,_⟩:=this;rw [d] at h1;simp only [RJ] at h1;subst h1;subst e;exact⟨rfl,rfl⟩
  | gX l=>obtain⟨b,h1,_⟩:=this;rw [d] at h1;simp only [RJ] at h1;subst h1;exact⟨rfl,rfl⟩
  | mp ag ks vk es=>obtain⟨b,_,_,h1,_⟩:=this;rw [d] at h1;simp only [RJ] at h1;subst h1;exact⟨rfl,rfl⟩
  | arr cs=>obtain⟨b,_,_,h1,_⟩:=this;rw [d] at h1;simp only [RJ] at h1;subst h1;exact⟨rfl,rfl⟩
  | rows b sz ax rsz nx es=>obtain⟨a,cap,h1,_⟩:=this;rw [d] at h1;simp only [RJ] at h1;subst h1;exact⟨rfl,rfl⟩
  | dead=>obtain⟨⟨v,h1,e⟩,_⟩:=this;rw [d] at h1;simp only [RJ] at h1;subst h1;exact e
theorem Pf(hs:HS c w h ρ O){v:AV}{u:Value}(hv:ai w A ρ v u)(a:oR v=true):u.oneCell'=true/\u.cells= #[u]:=by
 cases v <;> simp only [oR,R9] at a <;> simp only [ai] at hv
 case t=>exact hv.pc
 case ref=>obtain⟨b,_,rfl⟩:=hv;exact⟨rfl,rfl⟩
 case el=>obtain⟨_,_,_,_,_,rfl⟩:=hv;exact⟨rfl,rfl⟩
 case own=>exact jw hs hv
 case part=>obtain⟨_,_,_,_,_,_,_,rfl,_⟩:=hv;exact⟨rfl,rfl⟩
 case row=>exact hs.gone _ _ _ hv
 case rel=>obtain⟨_,_,_,_,_,rfl⟩:=hv;exact⟨rfl,rfl⟩
 case fn=>obtain⟨_,_,rfl,_⟩:=hv;exact⟨rfl,rfl⟩
theorem u7(hs:HS c w h ρ O){v:AV}{u:Value}(hv:ai w A ρ v u)(a:(gm v).all oR=true):aw w A ρ (gm v) u.cells.toList/\∀y∈u.cells.toList,y.oneCell'=true/\y.cells= #[y]:=by
 have one:gm v= [v]->aw w A ρ (gm v) u.cells.toList/\∀y∈u.cells.toList,y.oneCell'=true/\y.cells= #[y]:=by intro e;rw [e] at a⊢;simp only [Tu,List.all_nil,U7] at a;have h1:=Pf hs hv a;rw [h1.2];refine⟨by simp only [aw];exact⟨u,[],rfl,hv,rfl⟩, ?_⟩;intro y hy;simp at hy;subst hy;exact h1
 cases v
 case agg vs=>simp only [ai] at hv;obtain⟨d,rfl,h1,b⟩:=hv;exact⟨by simpa [gm,Value.cells] using h1,by simpa [Value.cells] using b⟩
 all_goals exact one rfl
end
open Go Go.IntKind
section
variable {P:Program} {w w':World} {A A':Nat->Prop} {c:Ctx} {ρ:Id->Option Value} {O:Id->Option Nat} {s:St} {cc:Option Bool} {h:Id->Option ab}
theorem rW{b:Nat}{arr:Array Value}{t:TypeId}{a:Nat×Nat}(hb:w.heap[b]? =some (.cells arr t a))(cs:Array Value)(p:Nat):(w.setRow b cs).cell? ⟨b,p,none⟩=cs[p]?:=by simp only [World.cell?,setRow_heap w b arr cs t a hb];rfl
theorem jL{b:Nat}{arr:Array Value}{t:TypeId}{a:Nat×Nat}(hb:w.heap[b]? =some (.cells arr t a))(p:Nat):w.cell? ⟨b,p,none⟩=arr[p]?:=by simp only [World.cell?,hb];rfl
theorem pn(w:World)(b:Nat)(cs:Array Value):(w.setRow b cs).heap.size=w.heap.size:=by simp [World.setRow]
theorem qS{d:Type}(off:Nat)(new a:List d)(hl:off+new.length<=a.length)(p:Nat):(bE off new a)[p]? =if off<=p/\p < off+new.length then new[p - off]? else a[p]?:=by
 unfold bE;rw [Sj];have h1:(a.take off).length=off:=by rw [SD];omega
 by_cases h:p < off
 .rw [SO (by omega),if_neg (by omega),TA,if_pos h]
 .rw [SK (by omega),h1];by_cases b:p < off+new.length
  .rw [SO (by omega),if_pos ⟨by omega,b⟩]
  .rw [SK (by omega),if_neg (by omega),Vi];congr 1;omega
theorem ph{b:Type}(off:Nat)(new a:List b)(hl:off+new.length<=a.length):(bE off new a).length=a.length:=by simp only [bE,SI,SD,Ts];omega
theorem aP.jZ{af:Nat}:∀{l:List T} {vs:List Value} {off:Nat},aO w A l vs->(∀j v,vs[j]? =some v->w.cell? ⟨af,off+j,none⟩=some v)->aP w A af off l
 | [],_,_,_,_=>by simp [aP]
 | x::l,vs,off,⟨v,r,e,h1,a⟩,hv=>by subst e;simp only [aP];refine⟨⟨v,by simpa using hv 0 v rfl,h1⟩,aP.jZ a λj u b=> ?_⟩;have:=hv (j+1) u (by simpa using b);rw [show off+1+j=off+ (j+1) by omega];exact this
theorem aP.cells{af:Nat}(a:∀b,A b->A' b/\w'.heap[b]? =w.heap[b]?):∀{cs:List T} {off:Nat},(∀j,j < cs.length->w'.cell? ⟨af,off+j,none⟩=w.cell? ⟨af,off+j,none⟩)->aP w A af off cs->aP w' A' af off cs
 | [],_,_,_=>by simp [aP]
 | x::cs,off,d,hr=>by
  simp only [aP] at hr⊢;obtain⟨⟨v,h1,e⟩,f⟩:=hr;refine⟨⟨v, ?_,au.mono a x v e⟩,aP.cells a (λj g=> ?_) f⟩
  .have:=d 0 (by simp);simp only [UE] at this;rw [this];exact h1
  .have:=d (j+1) (by simp;omega);rw [show off+1+j=off+ (j+1) by omega];exact this
theorem aP.append{af:Nat}:∀{a b:List T} {off:Nat},aP w A af off a->aP w A af (off+a.length) b->aP w A af off (a++b)
 | [],b,off,_,h=>by simpa using h
 | x::a,b,off,h,d=>by
  simp only [aP,RU] at h⊢;refine⟨h.1,aP.append h.2 ?_⟩;have:off+1+a.length=off+ (x::a).length:=by simp;omega
  rw [this];exact d
theorem aP.take{af:Nat}:∀{cs:List T} {off:Nat},aP w A af off cs->∀n,aP w A af off (cs.take n)
 | _,_,_,0=>by simp [aP]
 | [],_,_,n+1=>by simp [aP]
 | x::cs,off,h,n+1=>by simp only [aP,Ve] at h⊢;exact⟨h.1,aP.take h.2 n⟩
theorem aR.cells{af sz:Nat}(a:∀b,A b->A' b/\w'.heap[b]? =w.heap[b]?):∀{xs:List (List T)} {off:Nat},(∀p,off<=p->p < off+xs.length * sz->w'.cell? ⟨af,p,none⟩=w.cell? ⟨af,p,none⟩)->aR w A af sz off xs->aR w' A' af sz off xs
 | [],_,_,_=>by simp [aR]
 | cs::xs,off,d,hr=>by
  simp only [aR] at hr⊢;have e:(cs::xs).length * sz=sz+xs.length * sz:=by simp [SH];omega
  refine⟨hr.1,aP.cells a (λj g=>d _ (by omega) (by rw [e];omega)) hr.2.1,aR.cells a (λp h1 f=>d p (by omega) (by rw [e];omega)) hr.2.2⟩
theorem aR.set{af sz:Nat}(g:∀b,A b->A' b/\w'.heap[b]? =w.heap[b]?):∀{xs:List (List T)} {off k:Nat} {new:List T},aR w A af sz off xs->k < xs.length->new.length=sz->aP w' A' af (off+k * sz) new->
  (∀p,off<=p->p < off+xs.length * sz->¬(off+k * sz<=p/\p < off+k * sz+sz)->w'.cell? ⟨af,p,none⟩=w.cell? ⟨af,p,none⟩)->aR w' A' af sz off (xs.set k new)
 | [],_,_,_,_,hk,_,_,_=>by simp at hk
 | cs::xs,off,0,new,hr,_,hn,a,d=>by
  simp only [aR,UK] at hr⊢;have e:(cs::xs).length * sz=sz+xs.length * sz:=by simp [SH];omega
  exact⟨hn,by simpa using a,aR.cells g (λp h1 i=>d p (by omega) (by rw [e];omega) (by omega)) hr.2.2⟩
 | cs::xs,off,k+1,new,hr,hk,hn,a,d=>by
  simp only [aR,Uj] at hr⊢;have e:(cs::xs).length * sz=sz+xs.length * sz:=by simp [SH];omega
  have f:(k+1) * sz=sz+k * sz:=by rw [SH];omega
  refine⟨hr.1,aP.cells g (λj m=>d _ (by omega) (by rw [e];omega) (by rw [f];omega)) hr.2.1,aR.set g hr.2.2 (by simpa using hk) hn ?_ (λp h1 i l=>d p (by omega) (by rw [e];omega) (by rw [f];omega))⟩;rw [show off+sz+k * sz=off+ (k+1) * sz by rw [f];omega];exact a
theorem aw.bE{as l:List AV}{vs us:List Value}(h:aw w A ρ as vs)(a:aw w A ρ l us)(off:Nat):aw w A ρ (bE off l as) (bE off us vs):=by unfold Aev.bE;have:=a.length;rw [this];exact((h.take off).append a).append (h.drop _)
theorem aP.bE{af base off:Nat}{cs l:List T}(h1:aP w A af base (cs.take off))(a:aP w A af (base+off) l)(b:aP w A af (base+off+l.length) (cs.drop (off+l.length)))(hl:off<=cs.length):aP w A af base (bE off l cs):=by
 unfold Aev.bE;rw [Sj];have lt:(cs.take off).length=off:=by rw [SD];omega
 exact aP.append h1 (aP.append (by rw [lt];exact a) (by rw [lt];exact b))
theorem xk{t:TypeId}(d:bB P t=true){b off:Nat}{arr:Array Value}{tt:TypeId}{v:Value}(hb:w.heap[b]? =some (.cells arr tt (0,0)))(hl:v.cells.size=P.cellsOf t)(a:off+v.cells.toList.length<=arr.size)
  (h1:∀u∈v.cells.toList,u.oneCell'=true):(storeVar t ⟨b,off,none⟩ v).run P w= .ok () (w.setRow b (bE off v.cells.toList arr.toList).toArray):=by
 unfold storeVar;simp only [R6,iB d,RT,hl,ne_eq,not_true_eq_false,if_false];have:=run_storeCells_at P b off tt v.cells.toList 0 arr w hb (by simpa using a) h1;simp only [UE] at this;rw [this];rfl
theorem FD{v:AV}{p:Id×ab}(a:p∈gu h v):p.1∈v.ids:=by
 unfold gu at a;split at a
 .split at a
  .simp only [RP] at a;subst a;simp [AV.ids]
  .cases a
 .split at a
  .simp only [RP] at a;subst a;simp [AV.ids]
  .cases a
 .split at a
  .split at a
   .simp only [RP] at a;subst a;simp [AV.ids]
   .cases a
  .cases a
 .cases a
theorem FG:∀{vs:List AV} {p:Id×ab},p∈lS h vs->p.1∈bI vs
 | [],p,a=>by cases a
 | v::vs,p,a=>by
  simp only [lS,RX] at a;simp only [bI,RX];rcases a with a | a
  .exact .inl (FD a)
  .exact .inr (FG a)
theorem FI{v:AV}{p:Id×ab}(a:p∈fX h v):p.1∈v.ids:=by
 unfold fX at a;split at a
 .simp only [AV.ids];exact FG a
 .exact FD a
theorem df:∀{us:aE} {h:Id->Option ab} {i:Id},(∀p∈us,p.1≠i)->aG h us i=h i
 | [],_,_,_=>rfl
 | (j,b)::us,h,i,hn=>by rw [cw,df (λp a=>hn p (RM _ a)),al _ _ (λe=>hn (j,b) RL e.symm)]
theorem tJ:∀{us:aE} {h:Id->Option ab} {i:Id} {b:ab},(∀p∈us,p.1≠i)->aG (aA h i (some b)) us=aA (aG h us) i (some b)
 | [],_,_,_,_=>rfl
 | (j,x)::us,h,i,b,hn=>by
  rw [cw,cw,<-tJ (λp f=>hn p (RM _ f))];congr 1;funext k;have:j≠i:=λe=>hn (j,x) RL e;by_cases a:k=j
  .subst a;rw [aB,al _ _ this,aB]
  .by_cases d:k=i
   .subst d;rw [al _ _ a,aB,aB]
   .rw [al _ _ a,al _ _ d,al _ _ d,al _ _ a]
theorem HS.qy{us:aE}(hs:HS c w h ρ O)(a:fP h us):
  ∃O',Le w ρ O w ρ O'/\HS c w (aG h us) ρ O'/\(∀i,O' i=O i\/O' i=none)/\(∀p∈us,O' p.1=none)/\∀i,(∀p∈us,p.1≠i)->O' i=O i:=HS.FB hs a
theorem xt{b:Nat}{i:Id}(hi:O i=some b)(cs:Array Value):Le w ρ O (w.setRow b cs) ρ O:=
 Le.write hi rfl rfl rfl (pn w b cs) λk hk=>setRow_other w b k cs hk
theorem cg.put{t:TypeId}{sz k off b o L cap:Nat}{bb:Bool}{xs J:List (List T)}{l:List T}{d:Value}{Q:Nat->Prop}(R:cg w A sz bb xs (.slice (some ⟨b,o,none⟩) L cap) Q)(hy:bt k off l xs=some J)(S:bB P t=true)
  (K:l.length=P.cellsOf t) (B:aO w A l d.cells.toList) (M:∀u∈d.cells.toList,u.oneCell'=true/\u.cells= #[u]):
  ∃cs,Q b/\(storeVar t ⟨b,o+k * sz+off,none⟩ d).run P w= .ok () (w.setRow b cs)/\
   ∀A' z,(∀m,A m->A' m/\(w.setRow b cs).heap[m]? =w.heap[m]?)->z b->cg (w.setRow b cs) A' sz bb J (.slice (some ⟨b,o,none⟩) L cap) z:=by
 obtain⟨a',cap',q1,V,W,X,F⟩:=R;simp only [SX] at q1;obtain⟨rfl,rfl,rfl⟩:=q1;unfold bt at hy;cases g:xs[k]? with
 | none=>simp [g] at hy
 | some cs=>
  simp only [g] at hy;split at hy
  .rename_i n;simp only [RJ] at hy;subst hy;have D:k < xs.length:=(RS.1 g).1;rcases F with F | ⟨af,off',arr,I,G,Y,r,Z,y⟩
   .omega
   .simp only [RJ,SL] at G;obtain⟨rfl,rfl,_⟩:=G;obtain⟨E,v⟩:=y.get g;have gl:=B.length;have N:(k+1) * sz<=cap * sz:=SE _ (by omega);have e2:(k+1) * sz=k * sz+sz:=SH _ _;have e:o+k * sz+off+d.cells.toList.length<=arr.size:=by omega
    have H:=xk (P:=P) S r (by rw [<-R8,gl,K]) e (λu U=>(M u U).1);refine⟨_,Y,H,λA' z f C=> ?_⟩;have x:(xs.set k (bE off l cs)).length=xs.length:=by simp
    refine⟨some ⟨b,o,none⟩,cap,by rw [x],by rw [x];exact V,W,X, .inr ⟨b,o,_,I,rfl,C,setRow_heap w b arr _ I (0,0) r, ?_, ?_⟩⟩
    .have:=ph (o+k * sz+off) d.cells.toList arr.toList (by simpa using e);simp only [Ta];rw [this];simpa using Z
    .have a:∀p,(w.setRow b (bE (o+k * sz+off) d.cells.toList arr.toList).toArray).cell? ⟨b,p,none⟩=if o+k * sz+off<=p/\p < o+k * sz+off+d.cells.toList.length then d.cells.toList[p - (o+k * sz+off)]? else w.cell? ⟨b,p,none⟩:=by
      intro p;rw [rW r,Us,qS _ _ _ (by simpa using e),jL r];simp
     have q:(bE off l cs).length=sz:=by rw [ph off l cs n,E]
     refine aR.set f y D q ?_ ?_
     .refine aP.bE (aP.cells f (λj i=> ?_) (v.take off)) ?_ ?_ (by omega)
      .have lt:(cs.take off).length=off:=by rw [SD];omega
       rw [lt] at i;rw [a,if_neg (by omega)]
      .refine aP.jZ (aO.mono f _ _ B) (λj u i=> ?_);have hj':j < d.cells.toList.length:=(RS.1 i).1;rw [a,if_pos (by omega)];rw [show o+k * sz+off+j - (o+k * sz+off)=j by omega];exact i
      .have:=v.drop (off+l.length);rw [show o+k * sz+off+l.length=o+k * sz+ (off+l.length) by omega];refine aP.cells f (λj i=> ?_) this;rw [a,if_neg (by omega)]
     .intro p h1 h2 h3;rw [a,if_neg (by omega)]
  .simp at hy
theorem vQ{n:Nat}{p:Bool×List (List T)}:∀{es:List Row},bq n es=some p->∃k e,es[k]? =some e/\e.n=n/\e.own=some p/\∀q,cN n q es=es.set k {e with own:=q}
 | [],h=>by simp [bq] at h
 | e::es,h=>by
  unfold bq at h;by_cases c:e.n=n
  .rw [if_pos c] at h;exact⟨0,e,rfl,c,h,λq=>by simp [cN,c]⟩
  .rw [if_neg c] at h;obtain⟨k,a,h1,b,d,f⟩:=vQ h;exact⟨k+1,a,by simpa using h1,b,d,λq=>by simp [cN,c,f]⟩
theorem sM{es:List Row}(h:(es.map (·.n)).Nodup){j k:Nat}{x y:Row}(f:es[j]? =some x)(hk:es[k]? =some y)(e:x.n=y.n):j=k:=by
 have h1:(es.map (·.n))[j]? =some x.n:=by simp [f]
 have d:(es.map (·.n))[k]? =some x.n:=by simp [hk,e]
 obtain⟨g,a⟩:=RS.1 h1;obtain⟨i,b⟩:=RS.1 d;exact(List.getElem_inj h).1 (a.trans b.symm)
theorem GZ:∀{l:List Nat} {k x:Nat},l.Nodup->x∉l->(l.set k x).Nodup
 | [],_,_,_,_=>by simp
 | a::l,0,x,hn,b=>by simp only [UK,SU,RV,not_or] at hn b⊢;exact⟨b.2,hn.2⟩
 | a::l,k+1,x,hn,b=>by
  simp only [Uj,SU,RV,not_or] at hn b⊢;refine⟨λhm=> ?_,GZ hn.2 b.2⟩;rcases Su hm with h | h
  .exact hn.1 h
  .exact b.1 h.symm
theorem Nb{O':Id->Option Nat}(hs:HS c w h ρ O)(a:Id->Option Id)(d:∀k b,O' k=some b->∃x,a k=some x/\O x=some b)(e:∀k f x,a k=some x->a f=some x->k=f):∀i j b,O' i=some b->O' j=some b->i=j:=by intro i j b hi g;obtain⟨x,l,x2⟩:=d i b hi;obtain⟨y,m,n⟩:=d j b g;have:=hs.inj x y b x2 n;subst this;exact e i j x l m
theorem HS.OV{i j:Id}{b bb:Bool}{sz ax rsz nx k af:Nat}{es:List Row}{e:Row}{xs:List (List T)}{G:Value}{cs:Array Value}(hs:HS c w h ρ O)(hi:h i=some (.rows b sz ax rsz nx es))(S:h j=some (.sl false rsz bb xs))(hk:es[k]? =some e)(hv:ρ j=some G)
  {a:Option Addr} {cap:Nat} (hρ:ρ i=some (.slice a es.length cap)) {off:Nat} {arr:Array Value} {t:TypeId} (ha:a=some ⟨af,off,none⟩) (hO:O i=some af) (hb:w.heap[af]? =some (.cells arr t (0,0))) (hfit:off+cap * sz<=arr.size)
  (W:cs= (bE (off+k * sz+ax) [G] arr.toList).toArray):
  ∃ρ' O',Le w ρ O (w.setRow af cs) ρ' O'/\HS c (w.setRow af cs) (aA (aA h j (some .dead)) i (some (.rows b sz ax rsz (nx+1) (es.set k ⟨nx,e.cs,some (bb,xs)⟩)))) ρ' O':=by
 obtain⟨a',cap',r1,r2,r3,⟨n1,V,n3,n4⟩,r5⟩:=hs.af i _ hi;rw [hρ] at r1;simp only [RJ,SX] at r1;obtain⟨rfl, -,rfl⟩:=r1;have Y:k < es.length:=(RS.1 hk).1;have M:bO w (AA c w O) ρ O i af sz ax rsz off es:=by
  rcases r5 with r5 | ⟨blk',off',arr',t',q1,q2,q3,q4,q5⟩
  .omega
  .rw [ha] at q1;simp only [RJ,SL] at q1;obtain⟨rfl,rfl,_⟩:=q1;exact q5
 have hen:e.n < nx:=V e (RN hk);have D:=hs.real (i:=i) (by rw [hi];simp);have L:=hs.real (i:=j) (by rw [S];simp);have X:j≠i:=λe=>by rw [e,hi] at S;cases S
 have K:∀n,Id.g i n≠j:=λn=>aJ L;obtain⟨v',s1,s2,_⟩:=hs.af j _ S;rw [hv] at s1;cases s1;have F:=M.get hk;have hcol:=F.2.1;have hbnd:(k+1) * sz<=cap * sz:=SE _ (by omega);have e2:(k+1) * sz=k * sz+sz:=SH _ _;have I:off+k * sz+ax+ [G].length<=arr.toList.length:=by simp;omega
 let ρ':Id->Option Value:=aA ρ (.g i nx) (some G);let O':Id->Option Nat:=λx=>if x= .g i nx then O j else if x=j then none else if x= .g i e.n then none else O x;have C:∀x,x≠ .g i nx->x≠j->x≠ .g i e.n->O' x=O x:=λx h1 E N=>by simp only [O',if_neg h1,if_neg E,if_neg N]
 have hOn:O' (.g i nx)=O j:=by simp only [O',if_true]
 have hOj:O' j=none:=by simp only [O',if_neg (K nx).symm,if_true]
 have hOe:O' (.g i e.n)=none:=by
  have h1:Id.g i e.n≠ .g i nx:=by intro h;cases h;omega
  simp only [O',if_neg h1,if_neg (K e.n),if_true]
 have H:∀x d,O' x=some d->(x= .g i nx/\O j=some d)\/(x≠ .g i nx/\x≠j/\x≠ .g i e.n/\O x=some d):=by
  intro x d l;simp only [O'] at l;split at l
  .exact .inl ⟨by assumption,l⟩
  .split at l
   .cases l
   .split at l
    .cases l
    .exact .inr ⟨by assumption,by assumption,by assumption,l⟩
 have le:Le w ρ O (w.setRow af cs) ρ' O':=by
  refine⟨rfl,rfl,rfl,by rw [pn];exact R3 _,λx u l=> ?_,λd _ hn=>setRow_other w af d _ λe=>hn i (e▸hO),λx d l=> ?_⟩
  .by_cases e:x= .g i nx
   .subst e;rw [n3 nx (R3 _)] at l;cases l
   .simp only [ρ'];rw [al _ _ e];exact l
  .rcases H x d l with⟨_,h⟩ | ⟨_,_,_,h⟩
   .exact .inl ⟨j,h⟩
   .exact .inl ⟨x,h⟩
 have r:∀x d,x≠i->O x=some d->(w.setRow af cs).heap[d]? =w.heap[d]?:=λx d l o=>setRow_other w af d _ λe=>l (hs.inj x i af (e▸o) hO);refine⟨ρ',O',le,hs.nH le (λx y l=> ?_) (λx hr l=> ?_) (λx n=> ?_) (λx n l=> ?_) (λx n u Q=> ?_) ?_ (λx d l=> ?_)⟩
 .by_cases q:x=i
  .subst q;rw [aB] at l;cases l;right;have R:(es.set k ⟨nx,e.cs,some (bb,xs)⟩).length=es.length:=by simp
   refine⟨a,cap, ?_,by rw [R];exact r2,r3,⟨?_,λf B=> ?_,λn hn=> ?_,λn d o=> ?_⟩, .inr ⟨af,off,cs,t,ha, ?_,setRow_heap w af arr _ t (0,0) hb, ?_, ?_⟩⟩
   .rw [R];simp only [ρ'];rw [al _ _ (aJ D).symm];exact hρ
   .rw [Uk];refine GZ n1 ?_;intro hm;obtain⟨f,B,e⟩:=Si.1 hm;simp only at e;have:=V f B;omega
   .rcases Su B with B | rfl
    .have:=V f B;omega
    .simp
   .have h1:Id.g x n≠ .g x nx:=by intro h;cases h;omega
    simp only [ρ'];rw [al _ _ h1];exact n3 n (by omega)
   .rcases H _ d o with⟨h,_⟩ | ⟨h1,_,N,h4⟩
    .cases h;exact⟨_,List.mem_set Y _,rfl⟩
    .obtain⟨f,B,J⟩:=n4 n d h4;obtain⟨m,hm⟩:=UX.1 B;have hmk:m≠k:=λe'=>by rw [e',hk] at hm;cases hm;rw [J] at N;exact N rfl
     refine⟨f,UX.2 ⟨m, ?_⟩,J⟩;rw [SW,if_neg (VL hmk)];exact hm
   .rw [C x (aJ D).symm (VL X) (aJ D).symm];exact hO
   .rw [W,Ta,ph _ _ _ I];simpa using hfit
   .have v:∀p,(w.setRow af cs).cell? ⟨af,p,none⟩=if off+k * sz+ax<=p/\p < off+k * sz+ax+1 then some G else w.cell? ⟨af,p,none⟩:=by
     intro p;rw [rW hb,W,Us,qS _ _ _ I,jL hb];by_cases U:off+k * sz+ax<=p/\p < off+k * sz+ax+1
     .rw [if_pos (by simpa using U),if_pos U,show p - (off+k * sz+ax)=0 by omega];rfl
     .rw [if_neg (by simpa using U),if_neg U];simp
    refine bO.set (λd o=>le.A d o) Y (λp p1 p2 p3=>by rw [v,if_neg (by omega)]) (λm f hm B=> ?_) ?_ M
    .have J:f.n≠e.n:=λe'=>hm (sM n1 B hk e');have hfx:f.n≠nx:=by have:=V f (RN B);omega
     have h1:Id.g x f.n≠ .g x nx:=by intro h;simp only [Id.g.injEq] at h;exact hfx h.2
     have E:Id.g x f.n≠ .g x e.n:=by intro h;simp only [Id.g.injEq] at h;exact J h.2
     refine⟨by simp only [ρ'];exact al _ _ h1,C _ h1 (K _) E,λd o=>r _ d (aJ D) o⟩
    .refine⟨F.1,hcol,λm y hm hy=> ?_,G,by rw [v,if_pos (by omega)],by simp only [ρ'];exact aB _ _ _, ?_⟩
     .obtain⟨u,g1,g2⟩:=F.2.2.1 m y hm hy;have hml:m < sz:=by have:=(RS.1 hy).1;rw [F.1] at this;exact this
      exact⟨u,by rw [v,if_neg (by omega)];exact g1,au.mono (λd o=>le.A d o) y u g2⟩
     .simp only;refine cg.mono (λd o=>le.A d o) (λd o=> ?_) s2;simp only [R9,if_false] at o;rw [hOn];exact⟨o,r j d X o⟩
  .rw [al _ _ q] at l;by_cases e3:x=j
   .subst e3;rw [aB] at l;cases l;exact .inr ⟨⟨G,by simp only [ρ'];rw [al _ _ (K nx).symm];exact hv,jw hs hv⟩,hOj⟩
   .rw [al _ _ e3] at l;have Z:=hs.real (i:=x) (by rw [l];simp);refine .inl ⟨l,C x (aJ Z).symm e3 (aJ Z).symm,λd o=>r x d q o,λn=> ?_⟩;have h1:∀m,Id.g x n≠ .g i m:=by intro m h;cases h;exact q rfl
    exact⟨by simp only [ρ'];exact al _ _ (h1 _),C _ (h1 _) (aJ L) (h1 _),λd o=>r _ d (aJ D) o⟩
 .by_cases q:x=i
  .subst q;rw [aB] at l;cases l
  .rw [al _ _ q] at l;by_cases e3:x=j
   .subst e3;rw [aB] at l;cases l
   .rw [al _ _ e3] at l;have:=hs.bS x hr l;refine⟨?_, ?_⟩
    .simp only [ρ'];rw [al _ _ (aJ hr).symm];exact this.1
    .rw [C x (aJ hr).symm e3 (aJ hr).symm];exact this.2
 .rw [al _ _ (aJ D),al _ _ (aJ L)];exact hs.dc x n
 .by_cases q:x=i
  .subst q;rw [aB] at l;cases l
  .rw [al _ _ q] at l;by_cases e3:x=j
   .subst e3;rw [aB] at l;cases l
   .rw [al _ _ e3] at l;have:=hs.eO x n l;have h1:∀m,Id.g x n≠ .g i m:=by intro m h;cases h;exact q rfl
    refine⟨?_, ?_⟩
    .simp only [ρ'];rw [al _ _ (h1 _)];exact this.1
    .rw [C _ (h1 _) (aJ L) (h1 _)];exact this.2
 .by_cases q:Id.g x n= .g i nx
  .rw [q] at Q;simp only [ρ',aB,RJ] at Q;subst Q;exact jw hs hv
  .simp only [ρ'] at Q;rw [al _ _ q] at Q;exact hs.gone x n u Q
 .refine Nb hs (λx=>if x= .g i nx then some j else if x=j then none else some x) (λx d l=> ?_) (λx y z l hy=> ?_)
  .rcases H x d l with⟨h1,E⟩ | ⟨h1,E,_,N⟩
   .exact⟨j,by rw [if_pos h1],E⟩
   .exact⟨x,by rw [if_neg h1,if_neg E],N⟩
  .split at l <;> split at hy
   .rename_i h1 E;rw [h1,E]
   .split at hy
    .cases hy
    .simp only [RJ] at l hy;subst l;rename_i h;exact(h hy).elim
   .split at l
    .cases l
    .simp only [RJ] at l hy;subst hy;rename_i h;exact(h l).elim
   .split at l
    .cases l
    .split at hy
     .cases hy
     .simp only [RJ] at l hy;rw [l,hy]
 .rw [pn];rcases H x d l with⟨_,h⟩ | ⟨_,_,_,h⟩
  .exact hs.lt _ d h
  .exact hs.lt _ d h
theorem HS.Rr{i:Id}{n r:Nat}{b:Bool}{sz ax rsz nx:Nat}{es:List Row}{p:Bool×List (List T)}{E:List (List T)}{v:Value}{cs:Array Value}(hs:HS c w h ρ O)(hi:h i=some (.rows b sz ax rsz nx es))(hf:bq n es=some p)(L:O (.g i n)=some r)
  (hv:ρ (.g i n)=some v) (Q:cg (w.setRow r cs) (AA c (w.setRow r cs) O) rsz p.1 E v (λd=>O (.g i n)=some d)):
  HS c (w.setRow r cs) (aA h i (some (.rows b sz ax rsz nx (cN n (some (p.1,E)) es)))) ρ O:=by
 have le:Le w ρ O (w.setRow r cs) ρ O:=xt L _;have G:=hs.real (i:=i) (by rw [hi];simp);have o:∀x d,x≠ .g i n->O x=some d->(w.setRow r cs).heap[d]? =w.heap[d]?:=λx d j l=>setRow_other w r d _ λe=>j (hs.inj x _ r (e▸l) L);obtain⟨k,e,hk,F,heo,J⟩:=vQ hf;refine hs.nH le (λx y j=> ?_) (λx hr j=> ?_) (λx m=> ?_) (λx m j=> ?_) hs.gone hs.inj (λx d l=>by rw [pn];exact hs.lt x d l)
 .by_cases z:x=i
  .subst z;rw [aB] at j;cases j;right;obtain⟨a,cap,r1,r2,r3,⟨R,S,n3,n4⟩,K⟩:=hs.af x _ hi;rw [J];have C:(es.set k {e with own:=some (p.1,E)}).length=es.length:=by simp
   have D:(es.set k {e with own:=some (p.1,E)}).map (·.n)=es.map (·.n):=by
    rw [Uk];refine T7 λm=> ?_;rw [SW];split
    .rename_i h;subst h;have:=(RS.1 hk).1;rw [if_pos (by simpa using this)];simp [hk]
    .rfl
   refine⟨a,cap,by rw [C];exact r1,by rw [C];exact r2,r3,⟨by rw [D];exact R,λf q=> ?_,n3,λm d l=> ?_⟩, ?_⟩
   .rcases Su q with q | rfl
    .exact S f q
    .exact S e (RN hk)
   .obtain⟨f,q,M⟩:=n4 m d l;have:m∈(es.set k {e with own:=some (p.1,E)}).map (·.n):=by rw [D];exact Si.2 ⟨f,q,M⟩
    obtain⟨f',h1,h2⟩:=Si.1 this;exact⟨f',h1,h2⟩
   .rcases K with K | ⟨af,off,arr,t,q1,U,q3,q4,V⟩
    .exact .inl K
    .have B:(w.setRow r cs).heap[af]? =w.heap[af]?:=o x af (aJ G).symm U;refine .inr ⟨af,off,arr,t,q1,U,by rw [B];exact q3,q4, ?_⟩;have I:=V.get hk;refine bO.set (λd l=>le.A d l) (RS.1 hk).1 (λ_ _ _ _=>mo B) (λm f hm q=>⟨rfl,rfl,λd l=>o _ d (λh=> ?_) l⟩) ?_ V
     .simp only [Id.g.injEq] at h;exact hm (sM R q hk (by rw [h.2,F]))
     .obtain⟨X,Y,Z,u,a4,H,a7⟩:=I;refine⟨X,Y,λm y hm hy=> ?_,u,by rw [mo B];exact a4,H, ?_⟩
      .obtain⟨W,g1,g2⟩:=Z m y hm hy;exact⟨W,by rw [mo B];exact g1,au.mono (λd l=>le.A d l) y W g2⟩
      .simp only;rw [F] at H⊢;rw [H] at hv;cases hv;exact Q
  .rw [al _ _ z] at j;have N:=hs.real (i:=x) (by rw [j];simp);refine .inl ⟨j,rfl,λd l=>o x d (aJ N).symm l,λm=>⟨rfl,rfl,λd l=>o _ d (λh=> ?_) l⟩⟩;simp only [Id.g.injEq] at h;exact z h.1
 .by_cases z:x=i
  .subst z;rw [aB] at j;cases j
  .rw [al _ _ z] at j;exact hs.bS x hr j
 .rw [al _ _ (aJ G)];exact hs.dc x m
 .by_cases z:x=i
  .subst z;rw [aB] at j;cases j
  .rw [al _ _ z] at j;exact hs.eO x m j
theorem Qm{R:Type}{t:TypeId}{a v:AV}{va x:Value}{K:aE->Option R}{r:R}(hs:HS c w s.h ρ O)(I:ai w (AA c w O) ρ a va)(Z:ai w (AA c w O) ρ v x)(hk:iE P s t a v K=some r):
  ∃us w' ρ' O',K us=some r/\(Instr.storeAt t va x).run P w= .ok () w'/\Le w ρ O w' ρ' O'/\HS c w' (aG s.h us) ρ' O':=by
 unfold iE at hk;cases Y:bB P t
 .simp [Y] at hk
 simp only [Y,cond_true] at hk;split at hk
 .rename_i i off;split at hk
  .rename_i cs hi;split at hk
   .rename_i g;obtain⟨N,H,c3⟩:=g;obtain⟨b,arr,t',h1,h2,h3,h4,h5,h6⟩:=yR hs hi;simp only [ai] at I;obtain⟨G,q,rfl⟩:=I;rw [h1] at q;simp only [RJ,Tv,SL] at q;obtain⟨rfl,_⟩:=q;obtain⟨Q,W⟩:=u7 hs Z H;have gl:=Q.length;have hl:=h4.length;have C:off+x.cells.toList.length<=arr.size:=by rw [gl];simp only [R8] at hl;omega
    have z:=xk (P:=P) Y h3 (by rw [<-R8,gl,N]) C (λu hu=>(W u hu).1);have le:Le w ρ O (w.setRow b (bE off x.cells.toList arr.toList).toArray) ρ O:=xt h2 _;refine⟨_,_,ρ,O,hk,by simpa [Instr.storeAt,Instr.sureAddr] using z,le, ?_⟩;rw [dB];refine hs.write h2 le (λk hk=>setRow_other w b k _ hk) _ ?_ (by rw [hi];simp);refine⟨b,_,t',h1,h2,setRow_heap w b arr _ t' (0,0) h3, ?_, ?_⟩
    .have m:∀(as:List AV) (vs:List Value),aw w (AA c w O) ρ as vs->aw _ _ ρ as vs:=λas vs hr=>aw.mono (λb hb=>le.A b hb) le.dL as vs hr;exact aw.bE (m _ _ h4) (m _ _ Q) off
    .intro u hu;simp only [bE,RX] at hu;rcases hu with(hu | hu) | hu
     .exact h5 u (Td hu)
     .exact W u hu
     .exact h5 u (UA hu)
   .simp at hk
  .simp at hk
 .rename_i i sz k off;split at hk
  .rename_i f bb xs hi;obtain⟨l,hsn,hk⟩:=RK.1 hk;split at hk
   .rename_i g;obtain⟨rfl,N,H⟩:=g;replace hk:=aI hk (.inl rfl);obtain⟨ys,hy,hk⟩:=hk;have D:∀p∈fX s.h v,p.1≠i:=by
     intro p X e;have:=FI X;rw [e] at this;simp only [List.contains_eq_mem,decide_eq_false_iff_not] at H;exact H this
    obtain⟨F,cn,M,o1,o2,o3⟩:=HS.qy hs (zZ (h:=s.h) v);obtain⟨Q,W⟩:=BJ hs Z hsn cn o1 o2;have J:aG s.h (fX s.h v) i=some (.sl false f bb xs):=by rw [df D];exact hi
    obtain⟨vv,q0,a',cap',q1,q2,q3,q4,q5⟩:=mZ M J;simp only [ai] at I;obtain⟨b,o,L,cap,q,rfl⟩:=I;rw [q0] at q;simp only [RJ] at q;subst q;simp only [SX] at q1;obtain⟨rfl,rfl,rfl⟩:=q1;unfold bt at hy;cases V:xs[k]? with
    | none=>simp [V] at hy
    | some cs=>
     simp only [V] at hy;split at hy
     .rename_i hfit0;simp only [RJ] at hy;subst hy;have hlt:k < xs.length:=(RS.1 V).1;rcases q5 with q5 | ⟨af,off',arr,t',q6,q7,q8,q9,q10⟩
      .omega
      .simp only [RJ,SL] at q6;obtain⟨rfl,rfl,_⟩:=q6;simp only [R9,if_false] at q7;obtain⟨lcs,hcs⟩:=q10.get V;have gl:=Q.length;have hbnd:(k+1) * f<=cap * f:=SE _ (by omega);have e2:(k+1) * f=k * f+f:=SH _ _;have C:o+k * f+off+x.cells.toList.length<=arr.size:=by omega
       have z:=xk (P:=P) Y q8 (by rw [<-R8,gl,N]) C (λu hu=>(W u hu).1);have E:Le w ρ F (w.setRow b (bE (o+k * f+off) x.cells.toList arr.toList).toArray) ρ F:=xt q7 _;refine⟨_,_,ρ,F,hk,by simpa [Instr.storeAt,Instr.sureAddr] using z,cn.trans E, ?_⟩;rw [cw,tJ D];refine M.write q7 E (λk hk=>setRow_other w b k _ hk) _ ?_ (by rw [J];simp);refine⟨_,q0, ?_,by simp⟩;have hl2:(xs.set k (bE off l cs)).length=xs.length:=by simp
       refine⟨some ⟨b,o,none⟩,cap,by rw [hl2],by rw [hl2];exact q2,q3,q4, .inr ⟨b,o,_,t',rfl,by simpa using q7,setRow_heap w b arr _ t' (0,0) q8, ?_, ?_⟩⟩
       .have:=ph (o+k * f+off) x.cells.toList arr.toList (by simpa using C);simp only [Ta];rw [this];simpa using q9
       .have y:∀p,(w.setRow b (bE (o+k * f+off) x.cells.toList arr.toList).toArray).cell? ⟨b,p,none⟩=if o+k * f+off<=p/\p < o+k * f+off+x.cells.toList.length then x.cells.toList[p - (o+k * f+off)]? else w.cell? ⟨b,p,none⟩:=by
         intro p;rw [rW q8,Us,qS _ _ _ (by simpa using C),jL q8];simp
        have U:∀G,AA c w F G->AA c (w.setRow b (bE (o+k * f+off) x.cells.toList arr.toList).toArray) F G/\(w.setRow b (bE (o+k * f+off) x.cells.toList arr.toList).toArray).heap[G]? =w.heap[G]?:=λG hb'=>E.A G hb';have lrepl:(bE off l cs).length=f:=by rw [ph off l cs hfit0,lcs]
        refine aR.set U q10 hlt lrepl ?_ ?_
        .refine aP.bE (aP.cells U (λj S=> ?_) (hcs.take off)) ?_ ?_ (by omega)
         .have lt:(cs.take off).length=off:=by rw [SD];omega
          rw [lt] at S;rw [y,if_neg (by omega)]
         .refine aP.jZ (aO.mono U _ _ Q) (λj u S=> ?_);have hj':j < x.cells.toList.length:=(RS.1 S).1;rw [y,if_pos (by omega)];rw [show o+k * f+off+j - (o+k * f+off)=j by omega];exact S
         .have:=hcs.drop (off+l.length);rw [show o+k * f+off+l.length=o+k * f+ (off+l.length) by omega];refine aP.cells U (λj S=> ?_) this;rw [y,if_neg (by omega)]
        .intro p h1 h2 h3;rw [y,if_neg (by omega)]
     .simp at hy
   .simp at hk
  .rename_i bb f ax rsz nx es hi;split at hk
   .rename_i j;split at hk
    .rename_i rsz' G xs S;split at hk
     .rename_i g;obtain⟨rfl,rfl,rfl,N,H⟩:=g;replace hk:=aI hk (.inl rfl);obtain⟨e,he,hk⟩:=hk;obtain⟨a,cap,r1,r2,r3,r4,r5⟩:=hs.af i _ hi;simp only [ai] at I Z;obtain⟨b,o,L,cap',q,rfl⟩:=I;have e1':=q;rw [r1] at q;simp only [RJ,SX] at q;obtain⟨rfl,rfl,rfl⟩:=q;have hlt:k < es.length:=(RS.1 he).1;rcases r5 with r5 | ⟨af,off',arr,t',q1,q2,q3,q4,q5⟩
      .omega
      .simp only [RJ,SL] at q1;obtain⟨rfl,rfl,_⟩:=q1;have T:=jw hs Z;have hcol:=(q5.get he).2.1;have hbnd:(k+1) * f<=cap * f:=SE _ (by omega);have e2:(k+1) * f=k * f+f:=SH _ _;have B:x.cells.toList= [x]:=by rw [T.2]
       have z:=xk (P:=P) (w:=w) (v:=x) Y q3 (by rw [T.2,N];rfl) (off:=o+k * f+off) (by rw [B];simp;omega) (λu hu=>by rw [B,RP] at hu;subst hu;exact T.1);rw [B] at z;obtain⟨ρ',O',le,hs'⟩:=hs.OV hi S he Z r1 rfl q2 q3 q4 rfl;refine⟨_,_,ρ',O',hk,by simpa [Instr.storeAt,Instr.sureAddr] using z,le, ?_⟩;rw [cw,dB];exact hs'
     .simp at hk
    .simp at hk
   .simp at hk
  .simp at hk
 .rename_i i sz n k off;split at hk
  .rename_i b f ax rsz nx es hi;replace hk:=aI hk (.inl rfl);obtain⟨p,X,hk⟩:=hk;replace hk:=RK.1 hk;obtain⟨l,hsn,hk⟩:=hk;split at hk
   .rename_i g;obtain⟨rfl,N,H⟩:=g;replace hk:=aI hk (.inl rfl);obtain⟨ys,hy,hk⟩:=hk;have D:∀p∈fX s.h v,p.1≠i:=by
     intro p X e;have:=FI X;rw [e] at this;simp only [List.contains_eq_mem,decide_eq_false_iff_not] at H;exact H this
    obtain⟨F,cn,M,o1,o2,o3⟩:=HS.qy hs (zZ (h:=s.h) v);obtain⟨Q,W⟩:=BJ hs Z hsn cn o1 o2;have J:aG s.h (fX s.h v) i=some (.rows b f ax rsz nx es):=by rw [df D];exact hi
    obtain⟨vv,q0,q1⟩:=xg (s:=⟨s.t,aG s.h (fX s.h v)⟩) M J X;simp only [ai] at I;obtain⟨bk,o,L,cap,q,rfl⟩:=I;rw [q0] at q;simp only [RJ] at q;subst q;obtain⟨cs,hOb,z,hsl⟩:=q1.put (P:=P) hy Y N Q W;have E:Le w ρ F (w.setRow bk cs) ρ F:=xt hOb _;refine⟨_,_,ρ,F,hk,by simpa [Instr.storeAt,Instr.sureAddr] using z,cn.trans E, ?_⟩;rw [cw,tJ D];exact M.Rr J X hOb q0 (hsl _ _ (λd hd=>E.A d hd) hOb)
   .simp at hk
  .simp at hk
 .simp at hk
theorem H7(t:TypeId)(cells:Array Value):(newRow t cells).run P w= .ok ⟨w.heap.size,0,none⟩ (w.alloc (.cells cells t)):=by simp [newRow]
theorem jV(o:Obj):(w.alloc o).heap[w.heap.size]? =some o:=by show(w.heap.push o)[w.heap.size]? =some o;simp
theorem HS.GS{i:Id}(hs:HS c w h ρ O)(hi:h i=none){cs:List AV}{vs:List Value}(t:TypeId)(hv:aw w (AA c w O) ρ cs vs)(h1:∀u∈vs,u.oneCell'=true/\u.cells= #[u])(hrl:i.real=true:=by rfl):
  Le w ρ O (w.alloc (.cells vs.toArray t)) (aA ρ i (some (.pointer (some ⟨w.heap.size,0,none⟩)))) (aA O i (some w.heap.size))/\
  HS c (w.alloc (.cells vs.toArray t)) (aA h i (some (.box cs))) (aA ρ i (some (.pointer (some ⟨w.heap.size,0,none⟩)))) (aA O i (some w.heap.size)):=by
 have le:=Le.alloc hs hrl hi (.cells vs.toArray t) (.pointer (some ⟨w.heap.size,0,none⟩)) (some w.heap.size) (.inr rfl);refine⟨le,hs.alloc hrl hi _ _ _ (.inr rfl) _ ⟨w.heap.size,vs.toArray,t,by simp,by simp,jV _, ?_,h1⟩⟩;exact aw.mono (λb hb=>le.A b hb) le.dL _ _ hv
theorem HS.Oh{i:Id}(hs:HS c w h ρ O)(hi:h i=none){cs:List AV}{arr:Array Value}(t:TypeId)(hv:aw w (AA c w O) ρ cs arr.toList)(h1:∀u∈arr.toList,u.oneCell'=true/\u.cells= #[u])(hrl:i.real=true:=by rfl):
  Le w ρ O (w.alloc (.cells arr t)) (aA ρ i (some (.slice (some ⟨w.heap.size,0,none⟩) 1 1))) (aA O i (some w.heap.size))/\
  HS c (w.alloc (.cells arr t)) (aA h i (some (.arr cs))) (aA ρ i (some (.slice (some ⟨w.heap.size,0,none⟩) 1 1))) (aA O i (some w.heap.size)):=by
 have le:=Le.alloc hs hrl hi (.cells arr t) (.slice (some ⟨w.heap.size,0,none⟩) 1 1) (some w.heap.size) (.inr rfl);refine⟨le,hs.alloc hrl hi _ _ _ (.inr rfl) _ ⟨w.heap.size,arr,t,by simp,by simp,jV _, ?_,h1⟩⟩;exact aw.mono (λb hb=>le.A b hb) le.dL _ _ hv
theorem Hh{u:Value}{x:T}(e:nT u=some x):au w A x u:=by
 cases u <;> simp only [nT,RJ,reduceCtorEq] at e
 case slice a l b=>split at e <;> simp_all;subst e;simp [au]
 case pointer a=>split at e <;> simp_all;subst e;simp [au]
 case map a=>split at e <;> simp_all;subst e;simp [au]
 all_goals (subst e;simp [au])
theorem nU:∀{us:List Value} {l:List T},kS us=some l->aO w A l us
 | [],l,e=>by simp only [kS,RJ] at e;subst e;rfl
 | u::us,l,e=>by simp only [kS] at e;obtain⟨x,h1,e⟩:=RK.1 e;obtain⟨b,a,e⟩:=RK.1 e;simp only [RJ] at e;subst e;exact⟨u,us,rfl,Hh h1,nU a⟩
theorem nf{t:TypeId}{l:List T}(e:jc P t=some l):∃i z,P.info? t=some i/\i.zero=some z/\kS z.cells.toList=some l:=by
 unfold jc at e;split at e
 .rename_i i hi;split at e
  .rename_i z hz;exact⟨i,z,hi,hz,e⟩
  .simp at e
 .simp at e
theorem MK(off:Nat)(v cells:Array Value)(d:off+v.size<=cells.size):(v.zipIdx.foldl (λcs (x:Value×Nat)=>cs.setIfInBounds (off+x.2) x.1) cells).toList=bE off v.toList cells.toList:=by
 obtain⟨f,b⟩:=Go.Great.foldl_set off v.toList 0 cells;have e:v.zipIdx.foldl (λcs (x:Value×Nat)=>cs.setIfInBounds (off+x.2) x.1) cells= (v.toList.zipIdx 0).foldl (λcs (x:Value×Nat)=>cs.setIfInBounds (off+x.2) x.1) cells:=by rw [<-Array.foldl_toList,Array.toList_zipIdx]
 rw [e];apply T7;intro p;rw [SG,b p,qS off v.toList cells.toList (by simpa using d)];simp only [UE,R8,SG];by_cases a:off<=p/\p < off+v.size
 .rw [if_pos ⟨a.1,a.2,by omega⟩,if_pos a]
 .rw [if_neg (by omega),if_neg a]
inductive rM (w:World) (A:Nat->Prop) (ρ:Id->Option Value) (place:Nat->Option (Nat×Nat)):List (Nat×List AV)->List (Nat×Value)->Prop
 | nil:rM w A ρ place [] []
 | cons {off:Nat} {l:List AV} {f:Nat} {v:Value} {ls:List (Nat×List AV)} {vs:List (Nat×Value)} (hp:place f=some (off,l.length)) (hr:aw w A ρ l v.cells.toList) (h1:∀u∈v.cells.toList,u.oneCell'=true/\u.cells= #[u])
   (rest:rM w A ρ place ls vs):rM w A ρ place ((off,l)::ls) ((f,v)::vs)
theorem Fm{b:Nat->Option (Nat×Nat)}:∀{i:List (Nat×List AV)} {vs:List (Nat×Value)} {g a:List AV} {cells:Array Value},rM w A ρ b i vs->sB i g=some a->aw w A ρ g cells.toList->(∀u∈cells.toList,u.oneCell'=true/\u.cells= #[u])->
  ∃r,Instr.fill b cells vs=some r/\aw w A ρ a r.toList/\∀u∈r.toList,u.oneCell'=true/\u.cells= #[u]
 | [],_,g,a,cells, .nil,hl,hz,h1=>by simp only [sB,RJ] at hl;subst hl;exact⟨cells,rfl,hz,h1⟩
 | (off,l)::i,(f,v)::vs,g,a,cells, .cons q hr m k,hl,hz,h1=>by
  simp only [sB] at hl;split at hl
  .rename_i p;have j:=hr.length;have t:=hz.length;simp only [R8] at j t;have e:off+v.cells.size<=cells.size:=by omega
   have d:=MK off v.cells cells e;obtain⟨r,n,o,e3⟩:=Fm (cells:=v.cells.zipIdx.foldl (λcs (x:Value×Nat)=>cs.setIfInBounds (off+x.2) x.1) cells) k hl (by
    rw [d];unfold bE;rw [show v.cells.toList.length=l.length by simpa using j];exact((hz.take off).append hr).append (hz.drop _)) (by
    intro u hu;rw [d] at hu;simp only [bE,RX] at hu;rcases hu with(hu | hu) | hu
    .exact h1 u (Td hu)
    .exact m u hu
    .exact h1 u (UA hu))
   refine⟨r, ?_,o,e3⟩;unfold Instr.fill;simp only [q];rw [if_neg (by simp [j];omega)];exact n
  .simp at hl
theorem Hx{t:TypeId}{f:Nat}{p:Nat×TypeId}(e:sU P t f=some p)(j:pe P t=true):
  bB P p.2=true/\((∃a,P.underlying t=some (.struct a)/\(a.toList.map λx=>(x.offset,P.cellsOf x.type))[f]? =some (p.1,P.cellsOf p.2))\/
   ∃n e,P.underlying t=some (.array n e)/\p= (f * P.cellsOf e,e)):=by
 unfold sU at e;split at e
 .rename_i q d;simp only [RJ] at e;subst e;obtain⟨a,x,h1,b,g,i⟩:=zS d;refine⟨i, .inl ⟨a,h1, ?_⟩⟩;rw [Sp,SG,b];simp [g]
 .split at e
  .rename_i n u d;simp only [RJ] at e;subst e;obtain⟨h1,b⟩:=C8 d;exact⟨b, .inr ⟨n,u,h1,rfl⟩⟩
  .simp at e
theorem Hz{a:Act}{g:Option Gs}{t:TypeId}(hs:HS c w s.h ρ O)(m:SS w (AA c w O) ρ s.t a.tmps)(hr:jG a.tmps g)(l:pe P t=true)(b:Nat->Option (Nat×Nat))
  (d:∀f p,sU P t f=some p->b f=some (p.1,P.cellsOf p.2)):
  ∀{k:List (Nat×Operand)} {j:List (Nat×List AV)},n7 P t (s.get g) k=some j->rM w (AA c w O) ρ b j (k.map λx=>(x.1,a.eval x.2))
 | [],j,e=>by simp only [n7,RJ] at e;subst e;exact .nil
 | (f,o)::k,j,e=>by
  simp only [n7] at e;obtain⟨p,u,e⟩:=RK.1 e;split at e
  .rename_i i;obtain⟨q,v,e⟩:=RK.1 e;simp only [RJ] at e;subst e;have hv:=SS.get (h:=s.h) m hr o;obtain⟨n,r⟩:=u7 hs hv i.2;exact .cons (by rw [d f p u,show(St.get ⟨s.t,s.h⟩ g o)=s.get g o from rfl,i.1]) n r (Hz hs m hr l b d v)
  .simp at e
theorem Kc{a:Act}{g:Option Gs}{t:TypeId}{m:Array (Nat×Operand)}{av:AV}(hs:HS c w s.h ρ O)(T:SS w (AA c w O) ρ s.t a.tmps)(hr:jG a.tmps g)(e:uZ P t (s.get g) m.toList=some av):
  ∃v,(Instr.build t (m.map λ(i,x)=>(i,a.eval x))).run P w= .ok v w/\ai w (AA c w O) ρ av v:=by
 unfold uZ at e;split at e
 .rename_i b;obtain⟨z,hz,e⟩:=RK.1 e;obtain⟨l,hl,e⟩:=RK.1 e;obtain⟨cs,L,e⟩:=RK.1 e;simp only [RJ] at e;subst e;obtain⟨i,zv,hi,E,N⟩:=nf hz;have D:aO w (AA c w O) z zv.cells.toList:=nU N;have S:(m.map λ(i,x)=>(i,a.eval x)).toList=m.toList.map λx=>(x.1,a.eval x.2):=by simp
  have key:∀j:Nat->Option (Nat×Nat),(∀f p,sU P t f=some p->j f=some (p.1,P.cellsOf p.2))->∃r,Instr.fill j zv.cells (m.map λ(i,x)=>(i,a.eval x)).toList=some r/\aw w (AA c w O) ρ cs r.toList/\∀u∈r.toList,u.oneCell'=true/\u.cells= #[u]:=by intro j q;rw [S];exact Fm (Hz hs T hr b j q hl) L (aw.kU D) D.one
  have C:∀r:Array Value,P.built t (m.map λ(i,x)=>(i,a.eval x)).toList=some r->aw w (AA c w O) ρ cs r.toList->(∀u∈r.toList,u.oneCell'=true/\u.cells= #[u])->
    ∃v,(Instr.build t (m.map λ(i,x)=>(i,a.eval x))).run P w= .ok v w/\ai w (AA c w O) ρ (.agg cs) v:=by
   intro r hb h1 H;exact⟨_,run_build w t _ r hb,by simp only [ai];exact⟨r.toList,by simp,h1,H⟩⟩
  cases k:P.underlying t with
  | none=>simp [pe,k] at b
  | some d=>
   cases d <;> simp only [pe,k,R9] at b
   case struct B=>
    have o:B.toList.mapM (λf=>(P.info? f.type).map λi=>(f.offset,i.size))=some (B.toList.map λx=>(x.offset,P.cellsOf x.type)):=by
     generalize B.toList=l at b;induction l with
     | nil=>rfl
     | cons f l U=>simp only [Tu,RQ] at b;obtain⟨d,I⟩:=Tz.1 b.1;obtain⟨i,hi,y⟩:=wo I;simp only [Wr,hi,TZ,Option.bind_eq_bind,R2,U b.2,Option.pure_def,Se,y]
    obtain⟨r,F,G,e3⟩:=key ((B.toList.map λx=>(x.offset,P.cellsOf x.type)).toArray[·]?) (λf p J=>by
     obtain⟨_,h | ⟨n,e,h,_⟩⟩:=Hx J (by simp [pe,k,b])
     .obtain⟨K,h1,H⟩:=h;rw [k] at h1;simp only [RJ,TypeDesc.struct.injEq] at h1;subst h1;simpa using H
     .rw [k] at h;simp at h)
    refine C r ?_ G e3;simp only [Program.built,hi,k,E,o];exact F
   case array n e=>
    obtain⟨d,I⟩:=Tz.1 b;obtain⟨R,M,y⟩:=wo I;obtain⟨r,F,G,e3⟩:=key (λi=>some (i * R.size,R.size)) (λf p J=>by
     obtain⟨_,⟨K,h1,_⟩ | ⟨W,V,h,Q⟩⟩:=Hx J (by simp [pe,k,b])
     .rw [k] at h1;simp at h1
     .rw [k] at h;simp only [RJ,TypeDesc.array.injEq] at h;obtain⟨rfl,rfl⟩:=h;subst Q;simp [y])
    refine C r ?_ G e3;simp only [Program.built,hi,k,E,M];exact F
 .simp at e
end
open Go Go.IntKind
section
variable {P:Program} {w w':World} {A A':Nat->Prop} {c:Ctx} {ρ:Id->Option Value} {O:Id->Option Nat} {s:St} {cc:Option Bool} {h:Id->Option ab}
def bT(w:World)(A:Nat->Prop)(sz:Nat):List (List T)->List (List Value)->Prop
 | [],vss=>vss= []
 | cs::xs,vss=>∃vs r,vss=vs::r/\cs.length=sz/\aO w A cs vs/\bT w A sz xs r
theorem bT.mono{sz:Nat}(a:∀b,A b->A' b/\w'.heap[b]? =w.heap[b]?):∀{xs:List (List T)} {vss:List (List Value)},bT w A sz xs vss->bT w' A' sz xs vss
 | [],_,h=>h
 | cs::xs,vss,⟨vs,r,e,h1,d,f⟩=>⟨vs,r,e,h1,aO.mono a cs vs d,bT.mono a f⟩
theorem bT.length{sz:Nat}:∀{xs:List (List T)} {vss:List (List Value)},bT w A sz xs vss->vss.length=xs.length/\vss.flatten.length=xs.length * sz
 | [],vss,h=>by simp only [bT] at h;subst h;simp
 | cs::xs,vss,⟨vs,r,e,h1,d,f⟩=>by subst e;obtain⟨a,b⟩:=bT.length f;have:=d.length;refine⟨by simp [a], ?_⟩;simp only [TI,SI,b,this,h1,Sc,SH];omega
theorem bT.one{sz:Nat}:∀{xs:List (List T)} {vss:List (List Value)},bT w A sz xs vss->∀u∈vss.flatten,u.oneCell'=true/\u.cells= #[u]
 | [],vss,h,u,hu=>by simp only [bT] at h;subst h;simp at hu
 | cs::xs,vss,⟨vs,r,e,h1,a,b⟩,u,hu=>by
  subst e;simp only [TI,RX] at hu;rcases hu with hu | hu
  .exact a.one u hu
  .exact bT.one b u hu
theorem bT.append{sz:Nat}:∀{xs d:List (List T)} {vss a:List (List Value)},bT w A sz xs vss->bT w A sz d a->bT w A sz (xs++d) (vss++a)
 | [],_,vss,_,h,b=>by simp only [bT] at h;subst h;simpa using b
 | cs::xs,d,vss,a,⟨vs,r,e,h1,f,g⟩,b=>by subst e;exact⟨vs,r++a,rfl,h1,f,bT.append g b⟩
theorem aR.aU{af sz:Nat}:∀{off:Nat} {xs:List (List T)},aR w A af sz off xs->∃vss,bT w A sz xs vss/\∀p v,vss.flatten[p]? =some v->w.cell? ⟨af,off+p,none⟩=some v
 | _,[],_=>⟨[],rfl,by simp⟩
 | off,cs::xs,h=>by
  simp only [aR] at h;obtain⟨vs,h1,b⟩:=h.2.1.aU;obtain⟨r,d,e⟩:=aR.aU h.2.2;refine⟨vs::r,⟨vs,r,rfl,h.1,h1,d⟩,λp v a=> ?_⟩;have hl:=h1.length;rw [h.1] at hl;rw [TI] at a;by_cases f:p < sz
  .rw [SO (by omega)] at a;exact b p v a
  .rw [SK (by omega),hl] at a;have:=e _ v a;rw [show off+sz+ (p - sz)=off+p by omega] at this;exact this
theorem aR.jZ{af sz:Nat}:∀{off:Nat} {xs:List (List T)} {vss:List (List Value)},bT w A sz xs vss->(∀p v,vss.flatten[p]? =some v->w.cell? ⟨af,off+p,none⟩=some v)->aR w A af sz off xs
 | _,[],_,_,_=>by simp [aR]
 | off,cs::xs,vss,⟨vs,r,e,h1,a,d⟩,hv=>by
  subst e;have hl:=a.length;rw [h1] at hl;simp only [aR];refine⟨h1,aP.jZ a (λj v b=>hv j v ?_),aR.jZ d (λp v f=> ?_)⟩
  .rw [TI,SO (RS.1 b).1];exact b
  .have:=hv (sz+p) v (by rw [TI,SK (by omega),hl,show sz+p - sz=p by omega];exact f);rw [show off+sz+p=off+ (sz+p) by omega];exact this
theorem HS.AI{i:Id}(hs:HS c w h ρ O)(hi:h i=none){xs:List (List T)}{vss:List (List Value)}{sz:Nat}(t:TypeId)(cells:Array Value)(cap:Nat)(hr:bT w (AA c w O) sz xs vss)
  (d:∀(p:Nat) (v:Value),vss.flatten[p]? =some v->cells[p]? =some v) (a:xs.length<=cap) (f:cap * sz<=cells.size) (hrl:i.real=true:=by rfl):
  Le w ρ O (w.alloc (.cells cells t)) (aA ρ i (some (.slice (some ⟨w.heap.size,0,none⟩) xs.length cap))) (aA O i (some w.heap.size))/\
  HS c (w.alloc (.cells cells t)) (aA h i (some (.sl false sz false xs))) (aA ρ i (some (.slice (some ⟨w.heap.size,0,none⟩) xs.length cap))) (aA O i (some w.heap.size)):=by
 have le:=Le.alloc hs hrl hi (.cells cells t) (.slice (some ⟨w.heap.size,0,none⟩) xs.length cap) (some w.heap.size) (.inr rfl);refine⟨le,hs.alloc hrl hi _ _ _ (.inr rfl) _ ⟨_,by rw [aB],⟨some ⟨w.heap.size,0,none⟩,cap,rfl,a,by simp,trivial, .inr ⟨w.heap.size,0,cells,t,rfl,by simp,jV _,by omega, ?_⟩⟩,by simp⟩⟩;refine aR.jZ (bT.mono (λb hb=>le.A b hb) hr) (λp v e=> ?_);rw [jL (jV _),Sn];exact d p v e
theorem EO{a:Act}{g:Option Gs}{e:TypeId}(hs:HS c w s.h ρ O)(C:SS w (AA c w O) ρ s.t a.tmps)(hr:jG a.tmps g){O':Id->Option Nat}(le:Le w ρ O w ρ O')(m:∀i,O' i=O i\/O' i=none):
  ∀{y:List (Nat×Operand)} {n:Nat} {q:List (List T)×aE},gW P s.h e (s.get g) n y=some q->(∀p∈q.2,O' p.1=none)->
   ∃vs:List Value,(y.map λx=>(x.1,a.eval x.2))= ((vs.zipIdx n).map λx=>(x.2,x.1))/\bT w (AA c w O') (P.cellsOf e) q.1 (vs.map λv=>v.cells.toList)/\(∀v∈vs,v.cells.size=P.cellsOf e)
 | [],n,q,b,_=>by simp only [gW,RJ] at b;subst b;exact⟨[],rfl,by simp [bT],by simp⟩
 | (k,o)::y,n,q,b,r=>by
  simp only [gW] at b;obtain⟨l,hl,b⟩:=RK.1 b;split at b
  .rename_i j;obtain⟨rfl,d⟩:=j;obtain⟨G,B,b⟩:=RK.1 b;simp only [RJ] at b;subst b;simp only [RX] at r;obtain⟨vs,D,E,e3⟩:=EO hs C hr le m B (λp u=>r p (.inr u));have hv:=SS.get (h:=s.h) C hr o;obtain⟨z,F⟩:=BJ hs hv hl le m (λp u=>r p (.inl u));have gl:=z.length;refine⟨a.eval o::vs, ?_,⟨_,_,rfl,d,z,E⟩, ?_⟩
   .simp only [Se,List.zipIdx_cons,D]
   .intro v f;rcases RV.1 f with rfl | f
    .rw [<-R8,gl,d]
    .exact e3 v f
  .simp at b
theorem EM{e:TypeId}{ev:Operand->AV}:∀{b:List (Nat×Operand)} {n:Nat} {q:List (List T)×aE},gW P h e ev n b=some q->fP h q.2/\q.1.length=b.length
 | [],n,q,a=>by simp only [gW,RJ] at a;subst a;exact⟨(λp i=>by cases i),rfl⟩
 | (k,o)::b,n,q,a=>by
  simp only [gW] at a;obtain⟨l,hl,a⟩:=RK.1 a;split at a
  .obtain⟨j,d,a⟩:=RK.1 a;simp only [RJ] at a;subst a;obtain⟨f,g⟩:=EM d;exact⟨(zZ _).append f,by simp [g]⟩
  .simp at a
theorem Bq{t e:TypeId}{n:Nat}(o:P.underlying t=some (.slice e))(j:bB P e=true)(hz:(jc P e).isSome=true)(b: 0 < P.cellsOf e)(hb:n<=1000/\P.cellsOf e<=1000)(vs:List Value)(hv:∀v∈vs,v.cells.size=P.cellsOf e)(hn:vs.length=n)
  (l:Array (Nat×Value)) (a:l.toList= (vs.zipIdx 0).map λx=>(x.2,x.1)):
  (Instr.buildSlice t n l).run P w= .ok (.slice (some ⟨w.heap.size,0,none⟩) n n) (w.alloc (.cells (vs.flatMap λv=>v.cells.toList).toArray e)):=by
 obtain⟨z,hz⟩:=Tz.1 hz;obtain⟨i,zv,hi,k,_⟩:=nf hz;have p:n * P.cellsOf e<=1000 * 1000:=Vn hb.1 hb.2;have h1:¬(n * P.cellsOf e > 2 ^ 24):=by
  have f:(2:Nat) ^ 24=16777216:=by decide
  rw [f];omega
 have m:=Go.Great.fill_whole b vs;unfold Instr.buildSlice;simp only [R6,run_underlying o,RT,iB j,if_neg h1,Sem.run_ite];by_cases d:n * P.cellsOf e=0
 .have g:n=0:=by rcases Nat.mul_eq_zero.1 d with e | e <;> omega
  subst g;have:vs= []:=R4.1 hn;subst this;simp only [Nat.zero_mul,if_true,Sf,RT];simp only [List.zipIdx_nil,T0] at a;simp [a,Instr.fill,newRow,Array.range_zero']
 .simp only [if_neg d,R6,zeroValue,typeInfo,run_program,RT,hi,Sf,k];rw [a,m _ hv (by simp [hn])];simp [newRow]
theorem H6{t e:TypeId}{a:List T}{n m:Int}{kn km:IntKind}(q:P.underlying t=some (.slice e))(hz:jc P e=some a)(hb:P.bytesOf e<=8192)(p:a.length=P.cellsOf e)(o: 0<=n)(h1:n<=m)(d:m<=eH):
  ∃zv:Value,aO w A a zv.cells.toList/\(Instr.makeSlice t (.int kn n) (.int km m)).run P w= .ok (.slice (some ⟨w.heap.size,0,none⟩) n.toNat m.toNat) (w.alloc (.cells (madeCells zv.cells (m.toNat * P.cellsOf e)) e)):=by
 obtain⟨i,zv,hi,k,g⟩:=nf hz;have j:P.cellsOf e=i.size:=by simp [Program.cellsOf,hi]
 have f:P.bytesOf e=i.bytes:=by simp [Program.bytesOf,hi]
 refine⟨zv,nU g, ?_⟩;rw [j];refine run_make w t e i zv q hi k kn km n m o h1 ?_ ?_
 .rw [f] at hb;have:(i.bytes:Int) * m<=8192 * 4294967296:=by
   have l:(i.bytes:Int)<=8192:=by omega
   have b:m<=4294967296:=by simpa [eH] using d
   calc (i.bytes:Int) * m<=8192 * m:=Sg l (by omega)
    _<=8192 * 4294967296:=R1 b (by omega)
  omega
 .have b:m<=4294967296:=by simpa [eH] using d
  omega
theorem At{zv:Array Value}{sz:Nat}(hz:zv.size=sz)(n m:Nat)(g:n<=m):∀(p:Nat) (v:Value),(List.replicate n zv.toList).flatten[p]? =some v->(madeCells zv (m * sz))[p]? =some v:=by
 intro p v a;have b:p < n * sz:=by have:=(RS.1 a).1;simpa [hz] using this
 have f: 0 < sz:=by
  rcases Ul sz with e | e
  .rw [e] at b;simp at b
  .exact e
 have hm:n * sz<=m * sz:=SE _ g;have key:∀n p,p < n * sz->(List.replicate n zv.toList).flatten[p]? =zv[p % sz]?:=by
  intro n;induction n with
  | zero=>intro p h;simp at h
  | succ n i=>
   intro p h;rw [Sv,TI];by_cases a:p < sz
   .rw [SO (by simpa [hz] using a),UF a];simp
   .rw [SK (by simp [hz];omega)];simp only [R8,hz];have j:(n+1) * sz=n * sz+sz:=SH _ _;rw [i _ (by omega)];congr 1;exact(Nat.mod_eq_sub_mod (by omega)).symm
 rw [key n p b] at a;have d:p % sz < zv.size:=by rw [hz];exact U5 _ f
 simp only [madeCells,Array.getElem?_map];rw [TV (by simp;omega)];simp only [Array.getElem_range,TZ,hz];rw [TV d] at a;rw [getElem!_pos zv _ d];exact a
theorem bT.replicate{sz:Nat}{a:List T}{vs:List Value}(hr:aO w A a vs)(hl:a.length=sz):∀n,bT w A sz (List.replicate n a) (List.replicate n vs)
 | 0=>rfl
 | n+1=>⟨vs,List.replicate n vs,rfl,hl,hr,bT.replicate hr hl n⟩
end
end Go.Aev
