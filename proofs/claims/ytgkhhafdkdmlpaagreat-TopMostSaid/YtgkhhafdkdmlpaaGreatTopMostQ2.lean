import Derived.Test.YtgkhhafdkdmlpaaGreatTopMostQ1
import Derived.ChangeKeysEq
import Derived.Deep.AppendSrc
import Derived.Great.FillDense
set_option linter.all false
namespace Go.Aev
open Go Go.IntKind
section
variable {P:Program} {w:World} {A:Nat->Prop}
theorem T.fS{k:IntKind}{x:T}{n:Int}(h:x.int? k=some n):x= .int k n:=by cases x <;> simp only [T.int?,reduceCtorEq] at h;split at h <;> simp_all
theorem T.iD{x:T}{b:Bool}(h:x.bool? =some b):x= .bool b:=by cases x <;> simp_all [T.bool?]
theorem T.jR{x:T}{s:ByteArray}(h:x.bx =some s):x= .str s:=by cases x <;> simp_all [T.bx]
theorem T.xN{x:T}{cs:List T}(h:x.pU =some cs):x= .ptr cs:=by cases x <;> simp_all [T.pU]
theorem T.pO{sz:Nat}{x:T}{p:Bool×List (List T)}(h:x.aP sz=some p):x= .ae sz p.1 p.2\/(x= .aT p.1/\p.2= []):=by
 cases x <;> simp only [T.aP,reduceCtorEq,Rp] at h
 case ae a b xs=>split at h <;> simp_all;subst h;simp
 case aT b=>subst h;simp
theorem MR{w:World}{A:Nat->Prop}{y:T}{v:Value}(h:xt y=true)(a:aw w A y v):v= .slice none 0 0:=by
 unfold xt at h;split at h
 .simp only [aw] at a;rcases a with⟨_,h⟩ | ⟨h,_⟩
  .exact h
  .cases h
 .simp only [aw] at a;rcases a with⟨_,_,h⟩ | ⟨h,_⟩
  .exact h
  .cases h
 .cases h
theorem AV.lN{v:AV}{x:T}(h:v.t? =some x):v= .t x:=by cases v <;> simp_all [AV.t?]
theorem pK{d R:Type}[Inhabited d]{c:Option Bool}{m:Option d}{k:d->Option R}{r:R}(h:aa c m k=some r):
  ∃a,k a=some r/\(m=some a\/(m=none/\c=some false)):=by
 unfold aa at h;cases m with
 | some a=>exact⟨a,h, .inl rfl⟩
 | none=>cases c with
  | none=>simp at h
  | some b=>cases b with
   | true=>simp at h
   | false=>exact⟨_,h, .inr ⟨rfl,rfl⟩⟩
def sN(P:Program)(R:Value->World->Prop):Result Next->Prop
 | .ok (.value x) w'=>R x w'
 | .ok .skip w'=>R undef w'
 | .ok (.enter f args) w'=>Calls P f args w' λe a=>∃x,e= .returned x/\R x a
 | _=>False
def iy(P:Program)(o:Oper)(a:Act)(w:World)(R:Value->World->Prop):Prop:=sN P R ((execOp a.eval o).run P w)
theorem iy.mono{o:Oper}{a:Act}{R b:Value->World->Prop}(h:iy P o a w R)(d:∀x w',R x w'->b x w'):iy P o a w b:=by
 unfold iy at *
 generalize (execOp a.eval o).run P w=r at *
 cases r with
 | ok n w'=>
  cases n <;> simp only [sN] at h⊢
  case enter=>exact h.mono λe i ⟨x,f,g⟩=>⟨x,f,d _ _ g⟩
  all_goals exact d _ _ h
 | halt x w'=>simp [sN] at h
theorem iy.wp{o:Oper}{a:Act}{R:Value->World->Prop}{K:Act->World->Prop}{Q:Exit->Act->World->Prop}(h:iy P o a w R)(b:∀x w',R x w'->K (a.put o.dst x) w'):o.wp P a w K Q:=by
 unfold iy at h;unfold Oper.wp;generalize (execOp a.eval o).run P w=r at *
 cases r with
 | ok n w'=>
  cases n <;> simp only [sN] at h <;> simp only [Oper.upon]
  case enter=>exact h.mono λe g ⟨x,d,f⟩=>by subst d;exact b _ _ f
  all_goals first | exact b _ _ h | exact h.elim
 | halt x w'=>simp [sN] at h
theorem xn{t:TypeId}{d:TypeDesc}(h:P.underlying t=some d):∃i,P.info? t=some i/\P.cellsOf t=i.size:=by
 unfold Program.underlying at h;cases hi:P.info? t with
 | none=>simp [hi] at h
 | some i=>exact⟨i,rfl,by simp [Program.cellsOf,hi]⟩
theorem iT{t:TypeId}(h:bN P t=true)(w:World):(sizeOf t).run P w= .ok (P.cellsOf t) w:=by unfold bN at h;obtain⟨d,a⟩:=Tw.1 h;obtain⟨i,hi,hs⟩:=xn a;rw [hs];simp [sizeOf,typeInfo,hi]
theorem rU{t:TypeId}(h:bN P t=true)(w:World):(isAgg t).run P w= .ok (bt P t) w:=by unfold bN at h;obtain⟨d,a⟩:=Tw.1 h;unfold isAgg bt;simp only [RO,run_underlying a,RB,a];cases d <;> rfl
theorem gg(k:IntKind)(n:Int)(w:World)(A:Nat->Prop):aw w A (.int k n) (.int k n):=by simp [aw]
theorem nu(b:Bool)(w:World)(A:Nat->Prop):aw w A (.bool b) (.bool b):=by simp [aw]
theorem lG(b:ByteArray)(w:World)(A:Nat->Prop):aw w A (.str b) (.string b):=by simp [aw]
theorem JE{R:Type}{op:BinOp}{k:IntKind}{c:Option Bool}{x y:T}{K:T->Option R}{r:R}{t:TypeId}{j l:Value}(f:c=none\/c=some true)
  (i:aw w A x j) (hy:aw w A y l) (h:qK op k c x y K=some r):
  ∃z m,K z=some r/\(∀w A,aw w A z m)/\(binOp op t j l).run P w= .ok m w:=by
 unfold qK at h;replace h:=aK h f;obtain⟨a,n,h⟩:=h;replace h:=aK h f;obtain⟨b,hb,h⟩:=h;have:=T.fS n;subst this;have:=T.fS hb;subst this;simp only [aw] at i hy;subst i;subst hy;cases op <;> simp only [reduceCtorEq] at h
 case quo=>
  replace h:=aK h f;obtain⟨_,g,h⟩:=h;have d:b≠0:=by intro e;simp [e] at g
  exact⟨_,_,h,by first | exact gg _ _ | exact nu _ | exact lG _,by simp [binOp,Op.intDiv,d]⟩
 case rem=>
  replace h:=aK h f;obtain⟨_,g,h⟩:=h;have d:b≠0:=by intro e;simp [e] at g
  exact⟨_,_,h,by first | exact gg _ _ | exact nu _ | exact lG _,by simp [binOp,Op.intDiv,d]⟩
 all_goals exact⟨_,_,h,by first | exact gg _ _ | exact nu _ | exact lG _,by simp [binOp,Op.intArith,Op.intBits,Op.intCmp]⟩
theorem PB{R:Type}{op:BinOp}{k ky:IntKind}{c:Option Bool}{x y:T}{K:T->Option R}{r:R}{t:TypeId}{i j:Value}(d:c=none\/c=some true)
  (g:aw w A x i) (hy:aw w A y j) (h:rW op k ky c x y K=some r):
  ∃z l,K z=some r/\(∀w A,aw w A z l)/\(binOp op t i j).run P w= .ok l w:=by
 unfold rW at h;replace h:=aK h d;obtain⟨a,n,h⟩:=h;replace h:=aK h d;obtain⟨b,hb,h⟩:=h;have:=T.fS n;subst this;have:=T.fS hb;subst this;simp only [aw] at g hy;subst g;subst hy;replace h:=aK h d;obtain⟨_,m,h⟩:=h;have f:¬b < 0:=by intro e;simp [e] at m
 cases op <;> simp only [reduceCtorEq] at h
 all_goals exact⟨_,_,h,by first | exact gg _ _ | exact nu _ | exact lG _,by simp [binOp,Op.shift,f]⟩
theorem PX{R:Type}{op:BinOp}{c:Option Bool}{x y:T}{K:T->Option R}{r:R}{t:TypeId}{i j:Value}(d:c=none\/c=some true)
  (g:aw w A x i) (hy:aw w A y j) (h:rZ op c x y K=some r):
  ∃z k,K z=some r/\(∀w A,aw w A z k)/\(binOp op t i j).run P w= .ok k w:=by
 unfold rZ at h;replace h:=aK h d;obtain⟨a,m,h⟩:=h;replace h:=aK h d;obtain⟨b,hb,h⟩:=h;have:=T.jR m;subst this;have:=T.jR hb;subst this;simp only [aw] at g hy;subst g;subst hy;cases op <;> simp only [reduceCtorEq] at h
 case add=>
  replace h:=aK h d;obtain⟨_,l,h⟩:=h;have n:a.size+b.size<=4294967296:=by
   by_cases e:a.size+b.size<=4294967296
   .exact e
   .simp [e] at l
  have f:¬(((a.size+b.size:Nat):Int) > i64.max):=by
   have:i64.max=9223372036854775807:=by decide
   rw [this];omega
  exact⟨_,_,h,by first | exact gg _ _ | exact nu _ | exact lG _,by simp only [binOp,Op.stringOp,if_neg f];rfl⟩
 all_goals exact⟨_,_,h,by first | exact gg _ _ | exact nu _ | exact lG _,by simp [binOp,Op.stringOp]⟩
theorem JN{R:Type}{op:BinOp}{t ty:TypeId}{c:Option Bool}{x y:T}{K:T->Option R}{r:R}{d e:Value}(a:c=none\/c=some true)
  (b:aw w A x d) (hy:aw w A y e) (h:qM P op t ty c x y K=some r):
  (op≠ .eql/\op≠ .neq)/\∃z f,K z=some r/\(∀w A,aw w A z f)/\(binOp op t d e).run P w= .ok f w:=by
 unfold qM at h;cases op <;> simp only [reduceCtorEq] at h <;> refine⟨⟨by simp,by simp⟩, ?_⟩ <;> split at h <;> first | exact JE a b hy h | exact PB a b hy h | exact PX a b hy h | simp at h
theorem QY{R:Type}{op:UnOp}{t:TypeId}{c:Option Bool}{x:T}{K:T->Option R}{r:R}{f:Value}(e:c=none\/c=some true)
  (b:aw w A x f) (h:sd P op t c x K=some r):
  ∃z g,K z=some r/\(∀w A,aw w A z g)/\(Op.unary op f).run P w= .ok g w:=by
 unfold sd at h;split at h
 .replace h:=aK h e;obtain⟨a,d,h⟩:=h;have:=T.fS d;subst this;simp only [aw] at b;subst b;exact⟨_,_,h,by first | exact gg _ _ | exact nu _ | exact lG _,by simp [Op.unary,Op.intArith]⟩
 .replace h:=aK h e;obtain⟨a,d,h⟩:=h;have:=T.fS d;subst this;simp only [aw] at b;subst b;exact⟨_,_,h,by first | exact gg _ _ | exact nu _ | exact lG _,by simp [Op.unary,Op.intBits]⟩
 .replace h:=aK h e;obtain⟨a,d,h⟩:=h;have:=T.iD d;subst this;simp only [aw] at b;subst b;exact⟨_,_,h,by first | exact gg _ _ | exact nu _ | exact lG _,by simp [Op.unary]⟩
 .simp at h
theorem Mc{R:Type}{d:Nat}{t:TypeId}{c:Option Bool}{x y:T}{K:Bool->Option R}{r:R}{j l:Value}(e:c=none\/c=some true)
  (f:aw w A x j) (hy:aw w A y l) (h:lf P c t x y K=some r):∃b,K b=some r/\(Op.equalIn (d+1) t j l).run P w= .ok b w:=by
 unfold lf at h;split at h
 .rename_i k i;replace h:=aK h e;obtain⟨a,g,h⟩:=h;replace h:=aK h e;obtain⟨b,hb,h⟩:=h;have:=T.fS g;subst this;have:=T.fS hb;subst this;simp only [aw] at f hy;subst f;subst hy;exact⟨_,h,by simp [Op.equalIn,run_underlying i]⟩
 .rename_i i;replace h:=aK h e;obtain⟨a,g,h⟩:=h;replace h:=aK h e;obtain⟨b,hb,h⟩:=h;have:=T.iD g;subst this;have:=T.iD hb;subst this;simp only [aw] at f hy;subst f;subst hy;exact⟨_,h,by simp [Op.equalIn,run_underlying i]⟩
 .rename_i i;replace h:=aK h e;obtain⟨a,g,h⟩:=h;replace h:=aK h e;obtain⟨b,hb,h⟩:=h;have:=T.jR g;subst this;have:=T.jR hb;subst this;simp only [aw] at f hy;subst f;subst hy;exact⟨_,h,by simp [Op.equalIn,run_underlying i]⟩
 .simp at h
theorem Am{R:Type}{c:Option Bool}(d:List TypeId):∀(ts:List TypeId) (xs a:List T) (K:Bool->Option R),
  ef P c (ts++d) xs a K=ef P c ts (xs.take ts.length) (a.take ts.length) (λq=>ef P c d (xs.drop ts.length) (a.drop ts.length) λe=>K (q && e))
 | [],xs,a,K=>by simp [ef]
 | t::ts,[],a,K=>by simp [ef]
 | t::ts,x::xs,[],K=>by simp [ef]
 | t::ts,x::xs,y::a,K=>by simp only [Rx,RP,Ur,List.drop_succ_cons,ef];congr 1;funext b;rw [Am d ts xs a];simp only [VU]
theorem aN.take{cs:List T}{vs:List Value}(h:aN w A cs vs):∀n,aN w A (cs.take n) (vs.take n):=by
 intro n;induction n generalizing cs vs with
 | zero=>simp [aN]
 | succ n b=>
  cases cs with
  | nil=>simp only [aN] at h;subst h;simp [aN]
  | cons c cs=>obtain⟨v,r,rfl,h1,a⟩:=h;exact⟨v,r.take n,rfl,h1,b a⟩
theorem aN.drop{cs:List T}{vs:List Value}(h:aN w A cs vs):∀n,aN w A (cs.drop n) (vs.drop n):=by
 intro n;induction n generalizing cs vs with
 | zero=>simpa using h
 | succ n b=>
  cases cs with
  | nil=>simp only [aN] at h;subst h;simp [aN]
  | cons c cs=>obtain⟨v,r,rfl,h1,a⟩:=h;exact b a
end
open Go Go.IntKind
section
variable {P:Program} {w:World} {A:Nat->Prop}
def jS(P:Program)(t:TypeId)(vs:List Value):Value:=if bt P t=true then .agg vs.toArray else vs.headD undef
theorem uo{t:TypeId}(b:bN P t=true)(xs:Array Value)(off:Nat)(h1:bt P t=false->P.cellsOf t=1)(d:off+P.cellsOf t<=xs.size)(w:World):
  (part t xs off).run P w= .ok (jS P t ((xs.toList.drop off).take (P.cellsOf t))) w:=by
 unfold part jS;simp only [RO,rU b,RB];cases hb:bt P t
 .simp only [RS,if_false];rw [h1 hb] at d⊢;have a:off < xs.size:=by omega
  have:xs[off]? =some xs[off]:=TM a;rw [this];have e:off < xs.toList.length:=by simpa using a
  rw [Ta e];simp
 .simp only [if_true,RO,iT b,RB,R0];congr 2;apply TQ;simp [UJ,Uf]
theorem aN.part{xs:List T}{vs:List Value}(h:aN w A xs vs)(off n:Nat):aN w A ((xs.drop off).take n) ((vs.drop off).take n):=(h.drop off).take n
theorem qZ{R:Type}{c:Option Bool}(a:c=none\/c=some true):∀{ts:List TypeId} {xs d:List T} {K:Bool->Option R} {r:R},ef P c ts xs d K=some r->xs.length=ts.length/\d.length=ts.length
 | [],[],[],_,_,_=>⟨rfl,rfl⟩
 | t::ts,x::xs,y::d,K,r,h=>by
  simp only [ef] at h;have:∃b,ef P c ts xs d (λr=>K (b && r))=some r:=by
   unfold lf at h;split at h
   .replace h:=aK h a;obtain⟨_,_,h⟩:=h;replace h:=aK h a;obtain⟨_,_,h⟩:=h;exact⟨_,h⟩
   .replace h:=aK h a;obtain⟨_,_,h⟩:=h;replace h:=aK h a;obtain⟨_,_,h⟩:=h;exact⟨_,h⟩
   .replace h:=aK h a;obtain⟨_,_,h⟩:=h;replace h:=aK h a;obtain⟨_,_,h⟩:=h;exact⟨_,h⟩
   .simp at h
  obtain⟨b,hb⟩:=this;obtain⟨h1,e⟩:=qZ a hb;simp [h1,e]
 | [],[],_::_,_,_,h=>by simp [ef] at h
 | [],_::_,_,_,_,h=>by simp [ef] at h
 | _::_,[],_,_,_,h=>by simp [ef] at h
 | _::_,_::_,[],_,_,h=>by simp [ef] at h
theorem pI{n:Nat}{t:TypeId}{ts:List TypeId}(h:fi P n t=some ts):bN P t=true:=by
 cases n with
 | zero=>simp [fi] at h
 | succ n=>
  simp only [fi] at h;unfold bN;cases a:P.underlying t with
  | none=>simp [a] at h
  | some d=>rfl
theorem Fw{n:Nat}{t:TypeId}{ts:List TypeId}(h:fi P n t=some ts)(hb:bt P t=false):ts= [t]:=by
 cases n with
 | zero=>simp [fi] at h
 | succ n=>
  simp only [fi] at h;unfold bt at hb;cases a:P.underlying t with
  | none=>simp [a] at h
  | some d=>cases d <;> simp_all
def yI(P:Program)(w:World)(A:Nat->Prop)(n:Nat):Prop:= ∀(t:TypeId) (ts:List TypeId),fi P n t=some ts->∀(d:Nat),n<=d->
 ∀(R:Type) (c:Option Bool),c=none\/c=some true->∀(xs f:List T) (a e:List Value) (K:Bool->Option R) (r:R),aN w A xs a->aN w A f e->ef P c ts xs f K=some r->
  ∃b,K b=some r/\(Op.equalIn d t (jS P t a) (jS P t e)).run P w= .ok b w
theorem Fg{n d:Nat}(B:yI P w A n)(z:n<=d){X Y:Array Value}{R:Type}{c:Option Bool}(j:c=none\/c=some true):
  ∀(g:List Field) (off:Nat) (ts:List TypeId),rr P (fi P n) g off=some ts->∀(xs o:List T) (K:Bool->Option R) (r:R),aN w A xs (X.toList.drop off)->aN w A o (Y.toList.drop off)->
   ef P c ts xs o K=some r->∃b,K b=some r/\(Op.eqFields d X Y g).run P w= .ok b w
 | [],off,ts,h,xs,o,K,r,m,hy,e=>by simp only [rr,Rp] at h;subst h;obtain⟨h1,F⟩:=qZ j e;have:=RN.1 h1;subst this;have:=RN.1 F;subst this;exact⟨true,by simpa [ef] using e,by simp [Op.eqFields]⟩
 | f::g,off,ts,h,xs,o,K,r,m,hy,e=>by
  simp only [rr] at h;by_cases k:f.offset=off/\f.name≠ "_"
  .rw [if_pos k] at h;cases a:fi P n f.type with
   | none=>simp [a] at h
   | some l=>
    simp only [a,RA] at h;by_cases i:P.cellsOf f.type=l.length/\0 < l.length
    .rw [if_pos i] at h;obtain⟨hs,G⟩:=i;cases u:rr P (fi P n) g (off+l.length) with
     | none=>simp [u] at h
     | some q=>
      simp only [u,RA,Rp] at h;subst h;obtain⟨H,ly⟩:=qZ j e;simp only [Sw] at H ly;rw [Am] at e;obtain⟨v,x,D⟩:=B f.type l a d z R c j _ _ _ _ _ _ (m.take l.length) (hy.take l.length) e;have p:=m.drop l.length;have t:=hy.drop l.length;rw [Vn] at p t;obtain⟨C,y,E⟩:=Fg B z j g (off+l.length) q u _ _ _ _ p t x;have sx:=m.length;have I:=hy.length;simp only [Tk,RR] at sx I;have one:bt P f.type=false->P.cellsOf f.type=1:=λhb=>by rw [hs,Fw a hb];rfl
      refine⟨v && C,y, ?_⟩;simp only [Op.eqFields,ne_eq,k.2,not_false_eq_true,if_true,RO];rw [k.1,uo (pI a) X off one (by rw [hs];omega) w];simp only [RB];rw [uo (pI a) Y off one (by rw [hs];omega) w];simp only [RB,hs,D];cases v
      .simp
      .simp [E]
    .rw [if_neg i] at h;simp at h
  .rw [if_neg k] at h;simp at h
theorem Fh{n d:Nat}(D:yI P w A n)(C:n<=d){X Y:Array Value}{R:Type}{c:Option Bool}(j:c=none\/c=some true){e:TypeId}{l:List TypeId}(a:fi P n e=some l)(hs:P.cellsOf e=l.length):
  ∀(m k:Nat) (xs p:List T) (K:Bool->Option R) (r:R),aN w A xs (X.toList.drop (k * P.cellsOf e))->aN w A p (Y.toList.drop (k * P.cellsOf e))->
   ef P c (List.replicate m l).flatten xs p K=some r->∃b,K b=some r/\(Op.eqItems d e (P.cellsOf e) X Y (List.range' k m)).run P w= .ok b w
 | 0,k,xs,p,K,r,o,hy,f=>by obtain⟨h1,F⟩:=qZ j f;have:=RN.1 h1;subst this;have:=RN.1 F;subst this;exact⟨true,by simpa [ef] using f,by simp [Op.eqItems]⟩
 | m+1,k,xs,p,K,r,o,hy,f=>by
  simp only [Sj,TB] at f;obtain⟨H,ly⟩:=qZ j f;simp only [Sw] at H ly;rw [Am] at f;obtain⟨i,B,g⟩:=D e l a d C R c j _ _ _ _ _ _ (o.take l.length) (hy.take l.length) f;have t:=o.drop l.length;have u:=hy.drop l.length;have G:k * P.cellsOf e+l.length= (k+1) * P.cellsOf e:=by rw [hs,Sn]
  rw [Vn,G] at t u;obtain⟨y,q,v⟩:=Fh D C j a hs m (k+1) _ _ _ _ t u B;have sx:=o.length;have E:=hy.length;simp only [Tk,RR] at sx E;have one:bt P e=false->P.cellsOf e=1:=λhb=>by rw [hs,Fw a hb];rfl
  by_cases z:l.length=0
  ·
   refine⟨i && y,q, ?_⟩;have x:bt P e=true:=by
    cases hb:bt P e
    .have:=one hb;omega
    .rfl
   have I:∀(Z:Array Value) (w:World),(part e Z (k * P.cellsOf e)).run P w= .ok (jS P e []) w:=by intro Z w;unfold part jS;simp only [RO,rU (pI a),RB,x,if_true,iT (pI a),R0,hs,z];simp
   simp only [Ui,Op.eqItems,RO,I,RB];rw [z] at g;simp only [TZ] at g;rw [g];cases i
   .simp
   .simp [v]
  .refine⟨i && y,q, ?_⟩;simp only [Ui,Op.eqItems,RO];rw [uo (pI a) X _ one (by rw [hs] at sx⊢;omega) w];simp only [RB];rw [uo (pI a) Y _ one (by rw [hs] at E⊢;omega) w];simp only [RB,hs];rw [hs] at g v;simp only [g,RB];cases i
   .simp
   .simp [v]
theorem Ap:∀n,yI P w A n
 | 0=>by intro t ts h;simp [fi] at h
 | n+1=>by
  intro t ts h d V R c k xs z S T K r C hy j;obtain⟨d,rfl⟩:∃M,d=M+1:=⟨d - 1,by omega⟩;have L:=Ap n;simp only [fi] at h;have a:bt P t=false->ts= [t]->∃b,K b=some r/\(Op.equalIn (d+1) t (jS P t S) (jS P t T)).run P w= .ok b w:=by
   intro hb J;subst J;obtain⟨D,ly⟩:=qZ k j;cases xs with
   | nil=>simp at D
   | cons x xs=>cases z with
    | nil=>simp at ly
    | cons y z=>simp only [RP,Su,RY,Nat.add_eq_right,RN] at D ly;subst D;subst ly;obtain⟨v,q,rfl,h1,X⟩:=C;obtain⟨u,p,rfl,Q,W⟩:=hy;simp only [ef,Us] at j;simpa [jS,hb] using Mc (d:=d) k h1 Q j
  cases f:P.underlying t with
  | none=>simp [f] at h
  | some N=>
   cases N <;> simp only [f,reduceCtorEq,Rp] at h
   case int=>exact a (by simp [bt,f]) h.symm
   case bool=>exact a (by simp [bt,f]) h.symm
   case string=>exact a (by simp [bt,f]) h.symm
   case struct E=>
    split at h
    .simp at h
    .rename_i I;have g:bt P t=true:=by simp [bt,f]
     have G:P.underlying t=some (.struct (P.fieldsOf t)):=by simp [Program.fieldsOf,f]
     have H:P.fieldsOf t=E:=by simp [Program.fieldsOf,f]
     simp only [jS,g,if_true];rw [run_equalIn_struct w d t _ _ G (by simpa using I),H];exact Fg L (by omega) k E.toList 0 ts h xs z K r (by simpa using C) (by simpa using hy) j
   case array m e=>
    cases o:fi P n e with
    | none=>simp [o] at h
    | some l=>
     simp only [o,RA] at h;split at h
     .rename_i hs;simp only [Rp] at h;subst h;have g:bt P t=true:=by simp [bt,f]
      have B:=pI o;unfold bN at B;obtain⟨U,F⟩:=Tw.1 B;obtain⟨i,hi,_⟩:=xn F;simp only [jS,g,if_true];rw [run_equalIn_array w d _ _ f hi,UK];exact Fh L (by omega) k o hs m 0 xs z K r (by simpa using C) (by simpa using hy) j
     .simp at h
theorem Fb{R:Type}{ρ:Id->Option Value}{t:TypeId}{c:Option Bool}{x y:AV}{K:Bool->Option R}{r:R}{q u:Value}(i:c=none\/c=some true)
  (f:ak w A ρ x q) (hy:ak w A ρ y u) (h:pE P c t x y K=some r) (v z:Operand):
  ∃b,K b=some r/\((eqGuard .eql t v z q u).run P w= .ok () w/\(binOp .eql t q u).run P w= .ok (.bool b) w)/\((eqGuard .neq t v z q u).run P w= .ok () w/\(binOp .neq t q u).run P w= .ok (.bool (!b)) w):=by
 unfold pE at h;split at h
 .rename_i x y;simp only [ak] at f hy;cases n:AP P t
  .simp only [n,cond_false] at h;have d:=h;unfold lf at d;split at d
   .rename_i k p;replace d:=aK d i;obtain⟨a,m,d⟩:=d;replace d:=aK d i;obtain⟨b,hb,d⟩:=d;have:=T.fS m;subst this;have:=T.fS hb;subst this;simp only [aw] at f hy;subst f;subst hy;exact⟨_,d,⟨by simp [eqGuard],by simp [binOp,Op.intCmp]⟩,⟨by simp [eqGuard],by simp [binOp,Op.intCmp,bne]⟩⟩
   .rename_i p;replace d:=aK d i;obtain⟨a,m,d⟩:=d;replace d:=aK d i;obtain⟨b,hb,d⟩:=d;have:=T.iD m;subst this;have:=T.iD hb;subst this;simp only [aw] at f hy;subst f;subst hy;exact⟨_,d,⟨by simp [eqGuard],run_eql_bool w t a b p⟩,⟨by simp [eqGuard],run_neq_bool w t a b p⟩⟩
   .rename_i p;simp [AP,p] at n
   .simp at d
  .simp only [n,cond_true] at h;replace h:=aK h i;obtain⟨a,m,h⟩:=h;replace h:=aK h i;obtain⟨b,hb,h⟩:=h;have:=T.jR m;subst this;have:=T.jR hb;subst this;simp only [aw] at f hy;subst f;subst hy;exact⟨_,h,⟨by simp [eqGuard],by simp [binOp,Op.stringOp]⟩,⟨by simp [eqGuard],by simp [binOp,Op.stringOp]⟩⟩
 .rename_i xs H;cases j:(P.eqGuardType P.depth t || !bt P t)
  .simp only [j,cond_false] at h;simp only [Vc,Bool.not_eq_false'] at j;obtain⟨j,C⟩:=j;cases g:eO xs with
   | none=>simp [g] at h
   | some D=>
    cases l:eO H with
    | none=>simp [g,l] at h
    | some E=>
     cases o:fi P 8 t with
     | none=>simp [g,l,o] at h
     | some ts=>simp only [g,l,o,RA] at h;simp only [ak] at f hy;obtain⟨F,rfl,f,_⟩:=f;obtain⟨G,rfl,hy,_⟩:=hy;have B:bt P t=true:=C;obtain⟨b,hb,e⟩:=Ap 8 t ts o 10000 (by omega) R c i D E F G K r (aN.lC g f) (aN.lC l hy) h;simp only [jS,B,if_true] at e;exact⟨b,hb,⟨run_eqGuard_agg w .eql t v z _ _ j,by rw [run_eql_struct,e];rfl⟩,⟨run_eqGuard_agg w .neq t v z _ _ j,by rw [run_neq_struct,e];rfl⟩⟩
  .simp [j] at h
 .simp at h
end
open Go Go.IntKind
section
variable {P:Program} {w w':World} {A A':Nat->Prop} {c:Ctx} {ρ:Id->Option Value} {O:Id->Option Nat} {s:St} {cc:Option Bool}
theorem gJ(b o j:Nat):(⟨b,o,none⟩:Addr).add j= ⟨b,o+j,none⟩:=by
 unfold Addr.add;split
 .rename_i h;subst h;rfl
 .rfl
theorem aS.bc{ah:Nat}:∀{off:Nat} {cs:List T},aS w A ah off cs->∃vs,aN w A cs vs/\∀j v,vs[j]? =some v->w.cell? ⟨ah,off+j,none⟩=some v
 | _,[],_=>⟨[],rfl,by simp⟩
 | off,x::cs,h=>by
  simp only [aS] at h;obtain⟨⟨v,hv,g⟩,b⟩:=h;obtain⟨vs,d,f⟩:=aS.bc b;refine⟨v::vs,⟨v,vs,rfl,g,d⟩, ?_⟩;intro j u a;cases j with
  | zero=>simp at a;subst a;exact hv
  | succ j=>
   have:=f j u (by simpa using a);have e:off+1+j=off+ (j+1):=by omega
   rw [e] at this;exact this
theorem aN.one:∀{cs:List T} {vs:List Value},aN w A cs vs->∀u∈vs,u.oneCell'=true/\u.cells= #[u]
 | [],vs,h,u,hu=>by simp only [aN] at h;subst h;cases hu
 | x::cs,vs,⟨v,r,e,h1,a⟩,u,hu=>by
  subst e;rcases RC.1 hu with rfl | hu
  .exact h1.pR
  .exact aN.one a u hu
theorem yq{R:Type}(b:cc=none\/cc=some true):∀{n:Nat} {cs:List T} {K:List T->Option R} {r:R},o5 cc n cs K=some r->∃l,l=cs.take n/\l.length=n/\K l=some r
 | 0,cs,K,r,h=>⟨[],by simp,rfl,h⟩
 | n+1,cs,K,r,h=>by
  simp only [o5] at h;replace h:=aK h b;obtain⟨x,a,h⟩:=h;obtain⟨l,h1,d,e⟩:=yq b h;cases cs with
  | nil=>simp at a
  | cons y cs=>simp only [SW,Rp] at a;subst a;exact⟨y::l,by simp [h1],by simp [d],e⟩
theorem Cf:∀{n:Nat} {cs l:List AV},nI n cs=some l->l=cs.take n/\l.length=n
 | 0,cs,l,h=>by simp only [nI,Rp] at h;subst h;simp
 | n+1,[],l,h=>by simp [nI] at h
 | n+1,x::cs,l,h=>by
  simp only [nI] at h;cases a:nI n cs with
  | none=>simp [a] at h
  | some q=>simp only [a,RA,Rp] at h;subst h;obtain⟨h1,b⟩:=Cf a;exact⟨by simp [h1],by simp [b]⟩
theorem BT{t:TypeId}(a:bN P t=true)(hb:bt P t=true)(b off:Nat)(vs:List Value)(e:vs.length=P.cellsOf t)(h:∀j v,vs[j]? =some v->w.cell? ⟨b,off+j,none⟩=some v):
  (loadVar t ⟨b,off,none⟩).run P w= .ok (.agg vs.toArray) w:=by
 unfold loadVar;simp only [RO,rU a,RB,hb,if_true,iT a,<-e];rw [run_loadCells_list w ⟨b,off,none⟩ vs (λj v d=>by rw [gJ];exact h j v d)];rfl
theorem x7{t:TypeId}(a:bN P t=true)(hb:bt P t=false)(b off:Nat)(v:Value)(h:w.cell? ⟨b,off,none⟩=some v):
  (loadVar t ⟨b,off,none⟩).run P w= .ok v w:=by
 unfold loadVar;simp only [RO,rU a,RB,hb,RS,if_false];rw [run_load,h]
theorem o7{R:Type}{k:Ck}{x:T}{v:Value}{K:T->Option R}{r:R}(e:cc=none\/cc=some true)(a:aw w A x v)(h:eX k cc x K=some r):
  ∃y,K y=some r/\aw w A y v:=by
 unfold eX at h;cases k with
 | i k=>simp only at h;replace h:=aK h e;obtain⟨n,d,h⟩:=h;rw [T.fS d] at a;exact⟨_,h,a⟩
 | b=>simp only at h;replace h:=aK h e;obtain⟨n,d,h⟩:=h;rw [T.iD d] at a;exact⟨_,h,a⟩
 | s=>simp only at h;replace h:=aK h e;obtain⟨n,d,h⟩:=h;rw [T.jR d] at a;exact⟨_,h,a⟩
 | l sz=>
  simp only at h;replace h:=aK h e;obtain⟨p,j,h⟩:=h;refine⟨_,h, ?_⟩;rcases T.pO j with rfl | ⟨rfl,g⟩
  .exact a
  .rw [g];simp only [aw] at a⊢;rcases a with⟨f,rfl⟩ | ⟨f,ah,off,m,rfl⟩
   .exact .inl ⟨f,trivial,rfl⟩
   .exact .inr ⟨f,ah,off,m,0,rfl,by simp, .inl trivial,trivial⟩
 | x=>exact⟨_,h,a⟩
theorem uE{R:Type}(d:cc=none\/cc=some true):∀{ks:List Ck} {xs:List T} {vs:List Value} {K:List T->Option R} {r:R},aN w A xs vs->eM cc ks xs K=some r->
  ∃b,K b=some r/\aN w A b vs
 | [],xs,vs,K,r,a,h=>⟨_,h,a⟩
 | _::_,[],vs,K,r,a,h=>⟨_,h,a⟩
 | k::ks,x::xs,vs,K,r,a,h=>by obtain⟨v,q,rfl,h1,g⟩:=a;simp only [eM] at h;obtain⟨y,h,e⟩:=o7 d h1 h;obtain⟨b,h,f⟩:=uE d g h;exact⟨_,h,⟨v,q,rfl,e,f⟩⟩
theorem P6{R:Type}{k:Ck}{x:T}{K:T->Option R}{r:R}(b:cc=none\/cc=some true)(h:eX k cc x K=some r):
  ∃y,K y=some r/\∀(w:World) (A:Nat->Prop) (v:Value),aw w A x v->aw w A y v:=by
 have e:eX k cc x K= (eX k cc x some).bind K:=by rw [nJ];rfl
 rw [e] at h;obtain⟨y,hy,h⟩:=Rq.1 h;refine⟨y,h,λw A v a=> ?_⟩;obtain⟨z,hz,a⟩:=o7 b a hy;simp only [Rp] at hz;subst hz;exact a
theorem P7{R:Type}{ks:List Ck}{xs:List T}{K:List T->Option R}{r:R}(b:cc=none\/cc=some true)(h:eM cc ks xs K=some r):
  ∃y,K y=some r/\∀(w:World) (A:Nat->Prop) (vs:List Value),aN w A xs vs->aN w A y vs:=by
 have e:eM cc ks xs K= (eM cc ks xs some).bind K:=by rw [r9];rfl
 rw [e] at h;obtain⟨y,hy,h⟩:=Rq.1 h;refine⟨y,h,λw A v a=> ?_⟩;obtain⟨z,hz,a⟩:=uE b a hy;simp only [Rp] at hz;subst hz;exact a
theorem P9{R:Type}{t:TypeId}{v:AV}{K:AV->Option R}{r:R}(b:cc=none\/cc=some true)(h:mD P cc t v K=some r):
  ∃y,K y=some r/\∀(w:World) (A:Nat->Prop) (ρ:Id->Option Value) (u:Value),ak w A ρ v u->ak w A ρ y u:=by
 unfold mD at h;split at h
 .obtain⟨y,h,g⟩:=P6 b h;exact⟨_,h,λw A ρ u a=>by simp only [ak] at a⊢;exact g w A u a⟩
 .rename_i vs;split at h
  .rename_i l i;obtain⟨y,h,g⟩:=P7 b h;refine⟨_,h,λw A ρ u a=> ?_⟩;simp only [ak] at a⊢;obtain⟨d,e,h1,f⟩:=a;exact⟨d,e,ay.lD (g w A d (aN.lC i h1)),f⟩
  .exact⟨_,h,λw A ρ u a=>a⟩
 .exact⟨_,h,λw A ρ u a=>a⟩
theorem yw{R:Type}(b:cc=none\/cc=some true):∀{ts:List TypeId} {vs:List AV} {K:List AV->Option R} {r:R},iY P cc ts vs K=some r->
  ∃y,K y=some r/\∀(w:World) (A:Nat->Prop) (ρ:Id->Option Value) (us:List Value),ay w A ρ vs us->ay w A ρ y us
 | [],vs,K,r,h=>⟨_,h,λw A ρ u a=>a⟩
 | _::_,[],K,r,h=>⟨_,h,λw A ρ u a=>a⟩
 | t::ts,v::vs,K,r,h=>by simp only [iY] at h;obtain⟨y,h,d⟩:=P9 b h;obtain⟨i,h,f⟩:=yw b h;refine⟨_,h,λw A ρ us a=> ?_⟩;simp only [ay] at a⊢;obtain⟨u,q,e,h1,g⟩:=a;exact⟨u,q,e,d w A ρ u h1,f w A ρ q g⟩
theorem xx{R:Type}{t:TypeId}(i:bN P t=true){b off:Nat}{cs:List T}{K:AV->Option R}{r:R}(d:cc=none\/cc=some true)(p:aS w A b off cs)(h:kx P t cc cs K=some r):
  ∃av v,K av=some r/\(loadVar t ⟨b,off,none⟩).run P w= .ok v w/\ak w A ρ av v:=by
 obtain⟨vs,h1,g⟩:=p.bc;unfold kx at h;cases hb:bt P t
 .simp only [hb,cond_false] at h;replace h:=aK h d;obtain⟨x,f,h⟩:=h;cases cs with
  | nil=>simp at f
  | cons y cs=>simp only [SW,Rp] at f;subst f;obtain⟨v,q,rfl,a,_⟩:=h1;obtain⟨z,h,a⟩:=o7 d a h;exact⟨_,v,h,x7 i hb b off v (by simpa using g 0 v rfl),by simpa [ak] using a⟩
 .simp only [hb,cond_true] at h;obtain⟨l,n,o,h⟩:=yq d h;have a:=h1.take (P.cellsOf t);rw [<-n] at a;have k:=a.length;obtain⟨u,h,m⟩:=uE d a h;refine⟨_,_,h,BT i hb b off _ (by rw [k,o]) (λj v e=>g j v ?_), ?_⟩
  .rw [T4] at e;split at e
   .exact e
   .cases e
  .simp only [ak];exact⟨_,rfl,ay.lD m,a.one⟩
theorem Nc{R:Type}{t:TypeId}(i:bN P t=true){b off:Nat}{cs:List AV}{vs:List Value}{K:AV->Option R}{r:R}(f:ay w A ρ cs vs)(h1:∀u∈vs,u.oneCell'=true/\u.cells= #[u])
  (g:∀j v,vs[j]? =some v->w.cell? ⟨b,off+j,none⟩=some v) (h:m6 P t cs K=some r):
  ∃av v,K av=some r/\(loadVar t ⟨b,off,none⟩).run P w= .ok v w/\ak w A ρ av v:=by
 unfold m6 at h;cases hb:bt P t
 .simp only [hb,cond_false] at h;cases cs with
  | nil=>simp at h
  | cons y cs=>simp only [SW,RA] at h;simp only [ay] at f;obtain⟨v,q,rfl,a,_⟩:=f;exact⟨_,v,h,x7 i hb b off v (by simpa using g 0 v rfl),a⟩
 .simp only [hb,cond_true] at h;cases e:nI (P.cellsOf t) cs with
  | none=>simp [e] at h
  | some l=>
   simp only [e,RA] at h;obtain⟨m,n⟩:=Cf e;have a:=f.take (P.cellsOf t);rw [<-m] at a;have k:=a.length;refine⟨_,_,h,BT i hb b off _ (by rw [k,n]) (λj v d=>g j v ?_), ?_⟩
   .rw [T4] at d;split at d
    .exact d
    .cases d
   .simp only [ak];exact⟨_,rfl,a,λu o=>h1 u (Tl o)⟩
theorem zz{i:Id}{cs:List AV}(hs:HS c w s.h ρ O)(hi:s.h i=some (.box cs)):∃b arr t,ρ i=some (.pointer (some ⟨b,0,none⟩))/\O i=some b/\w.heap[b]? =some (.cells arr t (0,0))/\
  ay w (AA c w O) ρ cs arr.toList/\(∀u∈arr.toList,u.oneCell'=true/\u.cells= #[u])/\∀j v,arr.toList[j]? =some v->w.cell? ⟨b,j,none⟩=some v:=by
 obtain⟨b,arr,t,h1,d,a,e,f⟩:=hs.ah i _ hi;refine⟨b,arr,t,h1,d,a,e,f,λj v g=> ?_⟩;simp only [World.cell?,a];simpa using g
theorem p4{i:Id}{a b:Bool}{sz:Nat}{l:List (List T)}(hs:HS c w s.h ρ O)(hi:s.h i=some (.sl a sz b l)):∃v,ρ i=some v/\cM w (AA c w O) sz b l v (λah=>if a=true then AA c w O ah else O i=some ah):=by obtain⟨v,h1,d,_⟩:=hs.ah i _ hi;exact⟨v,h1,d⟩
theorem b9.get{i:Id}{ah sz az rsz:Nat}:∀{es:List Row} {base k:Nat} {e:Row},b9 w A ρ O i ah sz az rsz base es->es[k]? =some e->iz w A ρ O i ah sz az rsz (base+k * sz) e
 | [],_,_,_,_,h=>by simp at h
 | x::es,base,0,e,a,h=>by simp only [SQ,Rp] at h;subst h;simpa using a.1
 | x::es,base,k+1,e,a,h=>by have:=b9.get a.2 (k:=k) (by simpa using h);rw [show base+ (k+1) * sz=base+sz+k * sz by rw [Sn];omega];exact this
theorem b9.own{i:Id}{ah sz az rsz n:Nat}{p:Bool×List (List T)}:∀{es:List Row} {base:Nat},b9 w A ρ O i ah sz az rsz base es->br n es=some p->∃v,ρ (.g i n)=some v/\cM w A rsz p.1 p.2 v (λb=>O (.g i n)=some b)
 | [],_,_,h=>by simp [br] at h
 | e::es,base,f,h=>by
  unfold br at h;split at h
  .rename_i j;obtain⟨_,_,_,v,_,d,a⟩:=f.1;rw [h] at a;rw [j] at d a;exact⟨v,d,a⟩
  .exact b9.own f.2 h
theorem xZ{i:Id}{b:Bool}{sz az rsz nx n:Nat}{es:List Row}{p:Bool×List (List T)}(hs:HS c w s.h ρ O)(hi:s.h i=some (.rows b sz az rsz nx es))(e:br n es=some p):
  ∃v,ρ (.g i n)=some v/\cM w (AA c w O) rsz p.1 p.2 v (λb=>O (.g i n)=some b):=by
 obtain⟨a,cap,h1,j,k,l,d⟩:=hs.ah i _ hi;rcases d with d | ⟨ah,off,arr,t,q1,m,q3,o,f⟩
 .have:es= []:=RN.1 (by omega);subst this;simp [br] at e
 .exact f.own e
theorem BQ{R:Type}{i:Id}{n:Nat}{K:Nat->Bool->List (List T)->Option R}{r:R}(hs:HS c w s.h ρ O)(d:cc=none\/cc=some true)(h:lI s.h cc i n K=some r):
  ∃rsz b xs v,K rsz b xs=some r/\ρ (.g i n)=some v/\cM w (AA c w O) rsz b xs v (λah=>O (.g i n)=some ah):=by
 unfold lI at h;split at h
 .rename_i hi;replace h:=aK h d;obtain⟨p,e,h⟩:=h;obtain⟨v,h1,a⟩:=xZ hs hi e;exact⟨_,_,_,v,h,h1,a⟩
 .cases h
theorem iz.bc{i:Id}{ah sz az rsz base:Nat}{e:Row}(h:iz w A ρ O i ah sz az rsz base e):∃vs:List Value,vs.length=sz/\(∀j v,vs[j]? =some v->w.cell? ⟨ah,base+j,none⟩=some v)/\
  (∀j x v,j≠az->e.cs[j]? =some x->vs[j]? =some v->aw w A x v)/\∃v,vs[az]? =some v/\ρ (.g i e.n)=some v:=by
 obtain⟨h1,t,l,v,m,y,D⟩:=h;have o:∀j,j < sz->∃u,w.cell? ⟨ah,base+j,none⟩=some u:=by
  intro j a;by_cases d:j=az
  .subst d;exact⟨v,m⟩
  .obtain⟨u,g,_⟩:=l j (e.cs[j]'(by omega)) d (Rv _);exact⟨u,g⟩
 have get:∀j u,((List.range sz).map λj=>(w.cell? ⟨ah,base+j,none⟩).getD undef)[j]? =some u->w.cell? ⟨ah,base+j,none⟩=some u:=by intro j u a;rw [Sb] at a;obtain⟨k,b,a⟩:=T2.1 a;obtain⟨p,b⟩:=Rz.1 b;rw [TJ] at b;subst b;obtain⟨C,q⟩:=o j (by simpa using p);rw [q] at a⊢;simpa using a
 refine⟨_,by simp,get,λj x u a B z=> ?_,v, ?_,y⟩
 .obtain⟨C,f,r⟩:=l j x a B;rw [get j u z] at f;cases f;exact r
 .rw [Sb,UR t];simp [m]
theorem ay.tU:∀{as:List AV} {vs:List Value},as.length=vs.length->(∀(j:Nat) (a:AV) (v:Value),as[j]? =some a->vs[j]? =some v->ak w A ρ a v)->ay w A ρ as vs
 | [],[],_,_=>by simp [ay]
 | [],_::_,h,_=>by simp at h
 | _::_,[],h,_=>by simp at h
 | a::as,v::vs,h,b=>by simp only [ay];exact⟨v,vs,rfl,b 0 a v rfl rfl,ay.tU (by simpa using h) λj a v h1 d=>b (j+1) a v (by simpa using h1) (by simpa using d)⟩
theorem IU{R:Type}(o:cc=none\/cc=some true):∀{ks:List Ck} {xs:List T} {vs:List Value} {az:Nat} {K:List T->Option R} {r:R},xs.length=vs.length->(∀(j:Nat) (x:T) (v:Value),j≠az->xs[j]? =some x->vs[j]? =some v->aw w A x v)->
  (∀k,ks[az]? =some k->k= .x)->eM cc ks xs K=some r->∃d,K d=some r/\d.length=vs.length/\∀j x v,j≠az->d[j]? =some x->vs[j]? =some v->aw w A x v
 | [],xs,vs,az,K,r,b,e,i,h=>⟨xs,h,b,e⟩
 | k::ks,[],vs,az,K,r,b,e,i,h=>⟨[],h,b,by simp⟩
 | k::ks,x::xs,[],az,K,r,b,e,i,h=>by simp at b
 | k::ks,x::xs,v::vs,0,K,r,b,e,i,h=>by
  simp only [eM] at h;have:k= .x:=i k rfl;subst this;simp only [eX] at h;have C:aN w A xs vs:=by
   have z:∀(xs:List T) (vs:List Value),xs.length=vs.length->(∀(j:Nat) (x:T) (v:Value),xs[j]? =some x->vs[j]? =some v->aw w A x v)->aN w A xs vs:=by
    intro xs;induction xs with
    | nil=>intro vs b _;cases vs;rfl;simp at b
    | cons x xs t=>
     intro vs b e;cases vs with
     | nil=>simp at b
     | cons v vs=>exact⟨v,vs,rfl,e 0 x v rfl rfl,t vs (by simpa using b) λj x v h1 f=>e (j+1) x v (by simpa using h1) (by simpa using f)⟩
   exact z xs vs (by simpa using b) λj x v h1 f=>e (j+1) x v (by omega) (by simpa using h1) (by simpa using f)
  obtain⟨d,h,g⟩:=uE o C h;have gl:=g.length;refine⟨_,h,by simp;omega,λj y u p hy l=> ?_⟩;cases j with
  | zero=>exact(p rfl).elim
  | succ j=>
   simp only [SR] at hy l;have:∀(d:List T) (vs:List Value) (j:Nat),aN w A d vs->d[j]? =some y->vs[j]? =some u->aw w A y u:=by
    intro d;induction d with
    | nil=>intro vs j _ h;simp at h
    | cons a d t=>
     rintro vs j ⟨E,q,rfl,m,n⟩ h1 f;cases j with
     | zero=>simp at h1 f;subst h1;subst f;exact m
     | succ j=>exact t q j n (by simpa using h1) (by simpa using f)
   exact this d vs j g hy l
 | k::ks,x::xs,v::vs,az+1,K,r,b,e,i,h=>by
  simp only [eM] at h;obtain⟨y,h,m⟩:=o7 o (e 0 x v (by omega) rfl rfl) h;obtain⟨d,h,n,D⟩:=IU o (az:=az) (by simpa using b) (λj x v p h1 f=>e (j+1) x v (by omega) (by simpa using h1) (by simpa using f)) (λk B=>i k (by simpa using B)) h;refine⟨_,h,by simp [n],λj y' u p hy l=> ?_⟩;cases j with
  | zero=>simp at hy l;subst hy;subst l;exact m
  | succ j=>exact D j y' u (by omega) (by simpa using hy) (by simpa using l)
theorem M9{R:Type}{t:TypeId}{i:Id}{ah sz az rsz base off:Nat}{e:Row}{h:Id->Option ab}{K:AV->Option R}{r:R}(hs:HS c w h ρ O)(B:bN P t=true)(n:cc=none\/cc=some true)(g:iz w (AA c w O) ρ O i ah sz az rsz base e)(b:rB P t cc i sz az off e K=some r):
  ∃av v,K av=some r/\(loadVar t ⟨ah,base+off,none⟩).run P w= .ok v w/\ak w (AA c w O) ρ av v:=by
 unfold rB at b;cases hb:bt P t
 .simp only [hb,cond_false] at b;split at b
  .rename_i d;subst d;obtain⟨_,_,_,v,J,L,_⟩:=g;exact⟨_,v,b,x7 B hb _ _ v J,by simp only [ak];exact L⟩
  .rename_i E;replace b:=aK b n;obtain⟨x,q,b⟩:=b;have F:e.cs[off]? =some x:=by rw [List.head?_drop] at q;exact q
   obtain⟨u,z,m⟩:=g.2.2.1 off x E F;obtain⟨y,b,I⟩:=o7 n m b;exact⟨_,u,b,x7 B hb _ _ u z,by simp only [ak];exact I⟩
 .simp only [hb,cond_true] at b;split at b
  .rename_i o;obtain⟨rfl,W⟩:=o;obtain⟨l,N,X,b⟩:=yq n b;have Q:=g.1;have D:l=e.cs:=by rw [N,SM (by omega)]
   subst D;obtain⟨vs,Y,T,U,Z,G,H⟩:=g.bc;have M:=g.2.1;obtain⟨V,b,z,m⟩:=IU n (ks:=(sP P t).set az .x) (az:=az) (by omega) U (λk b=>by
    rw [SC] at b;simp only [if_true] at b;split at b
    .simpa using b.symm
    .cases b) b
   refine⟨_, .agg vs.toArray,b, ?_, ?_⟩
   .rw [Uj];exact BT B hb _ _ vs (by omega) T
   .simp only [ak];refine⟨vs,rfl,ay.tU (by simp [z]) λj a v f hv=> ?_,λu S=> ?_⟩
    .rw [SC] at f;by_cases d:az=j
     .subst d;rw [if_pos rfl] at f;split at f
      .simp only [Rp] at f;subst f;rw [G] at hv;cases hv;simp only [ak];exact H
      .cases f
     .rw [if_neg d,Sb] at f;obtain⟨x,q,rfl⟩:=T2.1 f;simp only [ak];exact m j x v (λe=>d e.symm) q hv
    .obtain⟨j,p⟩:=UC.1 S;by_cases d:j=az
     .subst d;rw [G] at p;cases p;exact hs.gone _ _ _ H
     .have C:j < V.length:=by have:=(Rz.1 p).1;omega
      exact(m j _ u d (Rv C) p).pR
  .cases b
theorem Gg{R:Type}{t:TypeId}{a:AV}{Z:Value}{K:AV->Option R}{r:R}(hs:HS c w s.h ρ O)(f:ak w (AA c w O) ρ a Z)(g:cc=none\/cc=some true)(h:jH P s cc t a K=some r):
  ∃av v,K av=some r/\(Instr.loadAt t Z).run P w= .ok v w/\ak w (AA c w O) ρ av v:=by
 unfold jH at h;cases B:bN P t
 .simp [B] at h
 simp only [B,cond_true] at h;split at h
 .rename_i i off;split at h
  .rename_i cs hi;obtain⟨b,arr,N,h1,E,V,J,C,h6⟩:=zz hs hi;simp only [ak] at f;obtain⟨b',d,rfl⟩:=f;rw [h1] at d;simp only [Rp,Tq,Ss] at d;obtain⟨rfl,_⟩:=d;obtain⟨av,v,p,G,H⟩:=Nc (b:=b) (off:=off) B (J.drop off) (λu hu=>C u (Tm hu)) (λj v W=>h6 _ v (by rw [T5] at W;exact W)) h;exact⟨av,v,p,by simpa [Instr.loadAt,Instr.sureAddr] using G,H⟩
  .rename_i l hi;obtain⟨b,h1,E,V,J⟩:=hs.ah i _ hi;simp only [ak] at f;obtain⟨b',d,rfl⟩:=f;rw [h1] at d;simp only [Rp,Tq,Ss] at d;obtain⟨rfl,_⟩:=d;have C:=J.drop off;rw [RY] at C;obtain⟨av,v,p,G,H⟩:=xx B g C h;exact⟨av,v,p,by simpa [Instr.loadAt,Instr.sureAddr] using G,H⟩
  .simp at h
 .rename_i i sz k off;split at h
  .rename_i fz Y bb xs hi;split at h
   .rename_i z;subst z;replace h:=aK h g;obtain⟨cs,m,h⟩:=h;obtain⟨v,h1,E⟩:=p4 hs hi;simp only [ak] at f;obtain⟨b,o,L,cap,d,rfl⟩:=f;rw [h1] at d;simp only [Rp] at d;subst d;obtain⟨a',cap',p,G,H,g4,I⟩:=E;simp only [SD] at p;obtain⟨rfl,rfl,rfl⟩:=p;have M:k < xs.length:=(Rz.1 m).1;rcases I with I | ⟨ah,off',arr,N,y,Q,S,U,q⟩
    .omega
    .simp only [Rp,Ss] at y;obtain⟨rfl,rfl,_⟩:=y;obtain⟨_,F⟩:=q.get m;obtain⟨av,v,q1,D,q3⟩:=xx (ρ:=ρ) B g (F.drop off) h;exact⟨av,v,q1,by simpa [Instr.loadAt,Instr.sureAddr] using D,q3⟩
   .simp at h
  .rename_i bb Y az rsz nx es hi;split at h
   .rename_i z;subst z;replace h:=aK h g;obtain⟨e,m,h⟩:=h;obtain⟨a,cap,h1,E,V,J,C⟩:=hs.ah i _ hi;simp only [ak] at f;obtain⟨b,o,L,cap',d,rfl⟩:=f;rw [h1] at d;simp only [Rp,SD] at d;obtain⟨rfl,rfl,rfl⟩:=d;have M:k < es.length:=(Rz.1 m).1;rcases C with C | ⟨ah,off',arr,N,y,Q,S,U,q⟩
    .omega
    .simp only [Rp,Ss] at y;obtain⟨rfl,rfl,_⟩:=y;obtain⟨av,v,q1,D,q3⟩:=M9 hs B g (q.get m) h;exact⟨av,v,q1,by simpa [Instr.loadAt,Instr.sureAddr] using D,q3⟩
   .simp at h
  .simp at h
 .rename_i i sz n k off;replace h:=BQ hs g h;obtain⟨rsz,bb,xs,v,h,hv,X⟩:=h;split at h
  .rename_i z;subst z;replace h:=aK h g;obtain⟨cs,m,h⟩:=h;simp only [ak] at f;obtain⟨b,o,L,cap,d,rfl⟩:=f;rw [hv] at d;simp only [Rp] at d;subst d;obtain⟨a',cap',p,G,H,g4,I⟩:=X;simp only [SD] at p;obtain⟨rfl,rfl,rfl⟩:=p;have M:k < xs.length:=(Rz.1 m).1;rcases I with I | ⟨ah,off',arr,N,y,Q,S,U,q⟩
   .omega
   .simp only [Rp,Ss] at y;obtain⟨rfl,rfl,_⟩:=y;obtain⟨_,F⟩:=q.get m;obtain⟨av,v,q1,D,q3⟩:=xx (ρ:=ρ) B g (F.drop off) h;exact⟨av,v,q1,by simpa [Instr.loadAt,Instr.sureAddr] using D,q3⟩
  .simp at h
 .rename_i x;replace h:=aK h g;obtain⟨cs,m,h⟩:=h;have:=T.xN m;subst this;simp only [ak,aw] at f;obtain⟨ah,off,rfl,h1,E⟩:=f;obtain⟨av,v,q1,D,q3⟩:=xx (ρ:=ρ) B g E h;exact⟨av,v,q1,by simpa [Instr.loadAt,Instr.sureAddr] using D,q3⟩
 .simp at h
theorem At{t:TypeId}{f:Nat}{p:Nat×TypeId}(h:tu P t f=some p):∃a x,P.underlying t=some (.struct a)/\a[f]? =some x/\p= (x.offset,x.type)/\bN P p.2=true:=by
 unfold tu at h;split at h
 .rename_i a d;split at h
  .rename_i x e;cases b:bN P x.type
   .simp [b] at h
   .simp only [b,cond_true,Rp] at h;subst h;exact⟨a,x,d,e,rfl,b⟩
  .simp at h
 .simp at h
theorem wN{t e:TypeId}(h:mQ P t=some e):P.underlying t=some (.slice e)/\bN P e=true:=by
 unfold mQ at h;split at h
 .rename_i b d;cases a:bN P b
  .simp [a] at h
  .simp only [a,cond_true,Rp] at h;subst h;exact⟨d,a⟩
 .simp at h
theorem Dj{t:TypeId}{p:Nat×TypeId}(h:vV P t=some p):P.underlying t=some (.array p.1 p.2)/\bN P p.2=true:=by
 unfold vV at h;split at h
 .rename_i n b d;cases a:bN P b
  .simp [a] at h
  .simp only [a,cond_true,Rp] at h;subst h;exact⟨d,a⟩
 .simp at h
theorem Ml{R:Type}{t:TypeId}{x:AV}{m:Value}{f:Nat}{K:AV->Option R}{r:R}(a:ak w A ρ x m)(B:cc=none\/cc=some true)(h:rl P cc t x f K=some r):
  ∃av v,K av=some r/\(Instr.fieldAt t m f).run P w= .ok v w/\ak w A ρ av v:=by
 unfold rl at h;split at h
 .rename_i off u C;obtain⟨E,y,h1,q,l,z⟩:=At C;simp only [Sk] at l;obtain⟨rfl,rfl⟩:=l;split at h
  .simp at h
  .rename_i hz;have d:∀b o,(Instr.fieldAt t (.pointer (some ⟨b,o,none⟩)) f).run P w= .ok (.pointer (some ⟨b,o+y.offset,none⟩)) w:=by
    intro b o;simp [Instr.fieldAt,run_underlying h1,q,Instr.sureAddr,fieldPlace,iT z,hz,gJ]
   split at h
   .rename_i j o;simp only [ak] at a;obtain⟨b,e,rfl⟩:=a;exact⟨_,_,h,d _ _,by simp only [ak];exact⟨b,e,rfl⟩⟩
   .rename_i j sz k o;simp only [ak] at a;obtain⟨b,i,L,cap,e,rfl⟩:=a;exact⟨_,_,h,d _ _,by simp only [ak];exact⟨b,i,L,cap,e,by rw [Uc]⟩⟩
   .rename_i j sz n k o;simp only [ak] at a;obtain⟨b,i,L,cap,e,rfl⟩:=a;exact⟨_,_,h,d _ _,by simp only [ak];exact⟨b,i,L,cap,e,by rw [Uc]⟩⟩
   .rename_i y';replace h:=aK h B;obtain⟨cs,D,h⟩:=h;have:=T.xN D;subst this;simp only [ak,aw] at a;obtain⟨ah,o,rfl,g,p⟩:=a;refine⟨_,_,h,d _ _, ?_⟩;simp only [ak,aw];refine⟨ah,_,rfl, ?_,p.drop _⟩;rcases g with rfl | g
    .exact .inl (by simp)
    .exact .inr g
   .simp at h
 .simp at h
theorem oo{R:Type}{i:Int}{n:Nat}{K:Option R}{r:R}(b:cc=none\/cc=some true)(h:jF cc i n K=some r): 0<=i/\i < n/\K=some r:=by
 unfold jF at h;replace h:=aK h b;obtain⟨_,h1,h⟩:=h;split at h1
 .rename_i a;exact⟨a.1,a.2,h⟩
 .simp at h1
theorem MM{R:Type}{t:TypeId}{x:AV}{vx:Value}{i:Int}{ki:IntKind}{K:AV->Option R}{r:R}(hs:HS c w s.h ρ O)(d:ak w (AA c w O) ρ x vx)(u:cc=none\/cc=some true)(h:jk P s cc t x i K=some r):
  ∃av v,K av=some r/\(Instr.indexAt t vx (.int ki i)).run P w= .ok v w/\ak w (AA c w O) ρ av v:=by
 unfold jk at h;split at h
 .rename_i e J;obtain⟨M,F⟩:=wN J;have f:∀b o len cap,0<=i->i < (len:Nat)->(Instr.indexAt t (.slice (some ⟨b,o,none⟩) len cap) (.int ki i)).run P w= .ok (.pointer (some ⟨b,o+i.toNat * P.cellsOf e,none⟩)) w:=by
   intro b o len cap l h1;simp [Instr.indexAt,asIntOf,run_underlying M,l,h1,iT F,gJ]
  split at h
  .rename_i j;split at h
   .rename_i fz sz bb xs D;split at h
    .rename_i q;subst q;obtain⟨l,h1,h⟩:=oo u h;obtain⟨v,g,m⟩:=p4 hs D;simp only [ak] at d;rw [g] at d;simp only [Rp] at d;subst d;obtain⟨I,cap',q1,Y,q3,Z,z⟩:=m;rcases z with z | ⟨ah,off',arr,U,C,N,Q,S,G⟩
     .omega
     .subst C;subst q1;exact⟨_,_,h,f _ _ _ _ l h1,by simp only [ak];exact⟨ah,off',_,_,g,by simp⟩⟩
    .simp at h
   .rename_i bb sz az rsz nx es D;split at h
    .rename_i q;subst q;obtain⟨l,h1,h⟩:=oo u h;obtain⟨a,cap,g,m,V,g4,H⟩:=hs.ah j _ D;simp only [ak] at d;rw [g] at d;simp only [Rp] at d;subst d;rcases H with H | ⟨ah,off',arr,U,C,N,Q,S,G⟩
     .omega
     .subst C;exact⟨_,_,h,f _ _ _ _ l h1,by simp only [ak];exact⟨ah,off',_,_,g,by simp⟩⟩
    .simp at h
   .simp at h
  .rename_i j n;replace h:=BQ hs u h;obtain⟨rsz,bb,xs,v,h,hv,X⟩:=h;split at h
   .rename_i q;subst q;obtain⟨l,h1,h⟩:=oo u h;simp only [ak] at d;rw [hv] at d;simp only [Rp] at d;subst d;obtain⟨I,cap',q1,Y,q3,Z,z⟩:=X;rcases z with z | ⟨ah,off',arr,U,C,N,Q,S,G⟩
    .omega
    .subst C;subst q1;exact⟨_,_,h,f _ _ _ _ l h1,by simp only [ak];exact⟨ah,off',_,_,hv,by simp⟩⟩
   .simp at h
  .rename_i j sz off n;split at h
   .rename_i fz sz' bb xs D;split at h
    .rename_i q;obtain⟨rfl,rfl⟩:=q;obtain⟨l,h1,h⟩:=oo u h;obtain⟨v,g,m⟩:=p4 hs D;simp only [ak] at d;obtain⟨a,L,cap,I,B,e2,e3,rfl,e4⟩:=d;rw [g] at B;simp only [Rp] at B;subst B;obtain⟨a'',cap'',q1,Y,q3,Z,z⟩:=m;simp only [SD] at q1;obtain⟨rfl,rfl,rfl⟩:=q1;rcases z with z | ⟨ah,off',arr,U,C,N,Q,S,G⟩
     .omega
     .subst C;have ea:I=some ⟨ah,off'+off * P.cellsOf e,none⟩:=by
       rcases e4 with⟨rfl,rfl⟩ | ⟨rfl,_⟩ | ⟨b,o,e5,e6⟩
       .simp
       .omega
       .simp only [Rp,Ss] at e5;obtain⟨rfl,rfl,_⟩:=e5;exact e6
      subst ea;refine⟨_,_,h,f _ _ _ _ l h1, ?_⟩;simp only [ak];exact⟨ah,off',_,_,g,by congr 3;rw [TO];omega⟩
    .simp at h
   .simp at h
  .rename_i y;replace h:=aK h u;obtain⟨p,hp,h⟩:=h;obtain⟨l,h1,h⟩:=oo u h;replace h:=aK h u;obtain⟨cs,E,h⟩:=h;rcases T.pO hp with rfl | ⟨rfl,W⟩
   .simp only [ak,aw] at d;rcases d with⟨_,e,_⟩ | ⟨_,ah,off,sp,cap,rfl,g,m,V⟩
    .rw [e] at h1;simp at h1;omega
    .rcases m with m | ⟨rfl,m⟩
     .rw [m] at E;simp at E
     refine⟨_,_,h,f _ _ _ _ l h1, ?_⟩;obtain⟨g4,H⟩:=V.get E;simp only [ak,aw];exact⟨ah,_,rfl, .inr m,H⟩
   .rw [W] at h1;simp at h1;omega
  .simp at h
 .split at h
  .rename_i n e J;obtain⟨M,F⟩:=Dj J;obtain⟨l,h1,h⟩:=oo u h;have f:∀b o,(Instr.indexAt t (.pointer (some ⟨b,o,none⟩)) (.int ki i)).run P w= .ok (.pointer (some ⟨b,o+i.toNat * P.cellsOf e,none⟩)) w:=by
    intro b o;simp [Instr.indexAt,asIntOf,run_underlying M,Instr.sureAddr,l,h1,iT F,gJ]
   split at h
   .rename_i j off;simp only [ak] at d;obtain⟨b,B,rfl⟩:=d;exact⟨_,_,h,f _ _,by simp only [ak];exact⟨b,B,rfl⟩⟩
   .rename_i j sz k off;simp only [ak] at d;obtain⟨b,o',L,cap,B,rfl⟩:=d;exact⟨_,_,h,f _ _,by simp only [ak];exact⟨b,o',L,cap,B,by rw [Uc]⟩⟩
   .rename_i y;replace h:=aK h u;obtain⟨cs,E,h⟩:=h;have:=T.xN E;subst this;simp only [ak,aw] at d;obtain⟨ah,o,rfl,g,m⟩:=d;refine⟨_,_,h,f _ _, ?_⟩;simp only [ak,aw];refine⟨ah,_,rfl, ?_,m.drop _⟩;rcases g with rfl | g
    .exact .inl (by simp)
    .exact .inr g
   .simp at h
  .simp at h
end
open Go Go.IntKind
section
variable {P:Program} {w w':World} {A A':Nat->Prop} {c:Ctx} {ρ:Id->Option Value} {O:Id->Option Nat} {s:St} {cc:Option Bool}
theorem M3{R:Type}{t ty:TypeId}{ts:Array TypeId}{x:AV}{u:Value}{K:AV->Option R}{r:R}(hs:HS c w s.h ρ O)(d:ak w (AA c w O) ρ x u)(l:cc=none\/cc=some true)(h:m5 P s cc t x K=some r)
  (g:ts[0]? =some t):∃av v,K av=some r/\(Builtin.len_ ts ty #[u]).run P w= .ok v w/\ak w (AA c w O) ρ av v:=by
 unfold m5 at h;split at h
 .rename_i i;split at h
  .rename_i y;replace h:=aK h l;obtain⟨b,hb,h⟩:=h;have:=T.jR hb;subst this;simp only [ak,aw] at d;subst d;exact⟨_,_,h,by simp [Builtin.len_,g,run_underlying i];rfl,by simp only [ak];exact gg _ _ _ _⟩
  .simp at h
 .rename_i n e i;exact⟨_,_,h,by simp [Builtin.len_,g,run_underlying i];rfl,by simp only [ak];exact gg _ _ _ _⟩
 .rename_i e i;have f:∀a n cap,(Builtin.len_ ts ty #[.slice a n cap]).run P w= .ok (goInt n) w:=by
   intro a n cap;simp [Builtin.len_,g,run_underlying i]
  split at h
  .rename_i j;split at h
   .rename_i E sz bb xs m;obtain⟨v,k,o,cap',q1,H,q3,I,J⟩:=p4 hs m;simp only [ak] at d;rw [k] at d;simp only [Rp] at d;subst d;subst q1;exact⟨_,_,h,f _ _ _,by simp only [ak];exact gg _ _ _ _⟩
   .rename_i bb sz az rsz nx es m;obtain⟨a,cap,k,_⟩:=hs.ah j _ m;simp only [ak] at d;rw [k] at d;simp only [Rp] at d;subst d;exact⟨_,_,h,f _ _ _,by simp only [ak];exact gg _ _ _ _⟩
   .simp at h
  .rename_i j n;replace h:=BQ hs l h;obtain⟨rsz,bb,xs,v,h,hv,o,cap',q1,_⟩:=h;simp only [ak] at d;rw [hv] at d;simp only [Rp] at d;subst d;subst q1;exact⟨_,_,h,f _ _ _,by simp only [ak];exact gg _ _ _ _⟩
  .rename_i j sz off n;simp only [ak] at d;obtain⟨a,L,cap,o,C,D,e3,rfl,e4⟩:=d;exact⟨_,_,h,f _ _ _,by simp only [ak];exact gg _ _ _ _⟩
  .rename_i y;replace h:=aK h l;obtain⟨p,z,h⟩:=h;rcases T.pO z with rfl | ⟨rfl,q⟩
   .simp only [ak,aw] at d;rcases d with⟨_,e,rfl⟩ | ⟨_,ah,off,B,cap,rfl,k,F,G⟩
    .refine⟨_,_,h,f _ _ _, ?_⟩;simp only [ak,e];exact gg _ _ _ _
    .exact⟨_,_,h,f _ _ _,by simp only [ak];exact gg _ _ _ _⟩
   .simp only [ak,aw] at d;rw [q] at h;rcases d with⟨_,rfl⟩ | ⟨_,ah,off,B,rfl⟩ <;> exact⟨_,_,h,f _ _ _,by simp only [ak];exact gg _ _ _ _⟩
  .simp at h
 .simp at h
theorem zn{x:T}{n:Int}(h:iE.anyInt x=some n):∃k,x= .int k n:=by cases x <;> simp_all [iE.anyInt]
def jb(b:Option Int)(v:Option Value):Prop:=match b,v with
 | none,none=>True
 | some n,some (.int _ m)=>m=n
 | _,_=>False
theorem zy{R:Type}{a:Act}{g:Option Gs}{o:Option Operand}{K:Option Int->Option R}{r:R}(j:SS w A ρ s.t a.tmps)(i:jW a.tmps g)(e:cc=none\/cc=some true)(h:iE s cc g o K=some r):
  ∃b,K b=some r/\jb b (o.map a.eval):=by
 unfold iE at h;split at h
 .exact⟨none,h,trivial⟩
 .rename_i o;cases d:(s.get g o).t? with
  | none=>simp [d] at h
  | some x=>simp only [d,RA] at h;replace h:=aK h e;obtain⟨n,f,h⟩:=h;obtain⟨k,rfl⟩:=zn f;have:=SS.get (h:=s.h) j i o;rw [show(⟨s.t,s.h⟩:St)=s from rfl,AV.lN d] at this;simp only [ak,aw] at this;exact⟨some n,h,by simp [jb,this]⟩
theorem xm{a hi n:Int}(h:cZ a hi n=some ()): 0<=a/\a<=hi/\hi<=n:=by
 unfold cZ at h;split at h
 .assumption
 .simp at h
theorem uV{v:Option Value}(h:jb none v):v=none:=by cases v <;> simp_all [jb]
theorem qA{n:Int}{v:Option Value}(h:jb (some n) v):∃k,v=some (.int k n):=by
 cases v with
 | none=>simp [jb] at h
 | some v=>cases v <;> simp_all [jb]
theorem rT(k:IntKind)(n:Int)(y:Nat)(a:BoundsCode)(b: 0<=n)(h1:n<=y):(Instr.sliceBound (.int k n) y a).run P w= .ok n.toNat w:=run_sliceBound w k n y a b h1
theorem HU(p:Bool){b hi:Option Int}{i g:Option Value}{len cap:Nat}(f:jb b i)(o:jb hi g)(h1: 0<=b.getD 0)(d:b.getD 0<=hi.getD len)(j:hi.getD len<=cap):
  (Instr.sliceBounds p len cap i g none).run P w= .ok ((b.getD 0).toNat,(hi.getD len).toNat,cap) w:=by
 cases hi with
 | none=>
  have:=uV o;subst this;simp only [Sd] at d j⊢;cases b with
  | none=>have:=uV f;subst this;simp [Instr.sliceBounds]
  | some n=>obtain⟨k,rfl⟩:=qA f;simp only [RQ] at h1 d⊢;have e:=rT (P:=P) (w:=w) k n len .sliceB h1 d;simp [Instr.sliceBounds,e]
 | some m=>
  obtain⟨q,rfl⟩:=qA o;simp only [RQ] at d j⊢;have l:∀a,(Instr.sliceBound (.int q m) cap a).run P w= .ok m.toNat w:=λa=>rT q m cap a (by omega) j;cases b with
  | none=>have:=uV f;subst this;simp [Instr.sliceBounds,l]
  | some n=>obtain⟨k,rfl⟩:=qA f;simp only [RQ] at h1 d⊢;have e:=rT (P:=P) (w:=w) k n m.toNat .sliceB h1 (by omega);simp [Instr.sliceBounds,e,l]
theorem PH{R:Type}{t:TypeId}{x:AV}{vx:Value}{g hi mx:Option Int}{Q N E:Option Value}{K:AV->Option R}{r:R}(hs:HS c w s.h ρ O)(q:ak w (AA c w O) ρ x vx)(I:cc=none\/cc=some true)
  (hl:jb g Q) (hh:jb hi N) (hm:jb mx E) (h:nE P s cc t x g hi mx K=some r):
  ∃av v,K av=some r/\(Instr.sliceAt t vx Q N E).run P w= .ok v w/\ak w (AA c w O) ρ av v:=by
 unfold nE at h;split at h
 .rename_i Y;split at h
  .rename_i y;replace h:=aK h I;obtain⟨b,hb,h⟩:=h;have:=T.jR hb;subst this;simp only [ak,aw] at q;subst q;replace h:=aK h I;obtain⟨_,hb,h⟩:=h;obtain⟨h1,l,B⟩:=xm hb;have Z:E=none:=by cases E with | none=>rfl | some v=>simp [jb] at hm
   subst Z;refine⟨_,_,h, ?_,by simp only [ak];exact lG _ _ _⟩;have:=HU (P:=P) (w:=w) false (len:=b.size) (cap:=b.size) hl hh h1 l B;simp [Instr.sliceAt,Instr.slice,run_underlying Y,this]
  .simp at h
 .rename_i e Y;split at h
  .have Z:E=none:=by cases E with | none=>rfl | some v=>simp [jb] at hm
   subst Z
   have z:bN P e=true->∀(a:Option Addr) (len cap:Nat),0<=g.getD 0->g.getD 0<=hi.getD len->hi.getD len<=cap->
     (Instr.sliceAt t (.slice a len cap) Q N none).run P w= .ok (.slice (if cap= (g.getD 0).toNat then a else a.map (·.add ((g.getD 0).toNat * P.cellsOf e))) ((hi.getD len).toNat - (g.getD 0).toNat) (cap - (g.getD 0).toNat)) w:=by
    intro f a len cap h1 l B;have:=HU (P:=P) (w:=w) true hl hh h1 l B;simp [Instr.sliceAt,Instr.slice,run_underlying Y,this,iT f]
   split at h
   .rename_i j;split at h
    .rename_i fz sz bb xs X;split at h
     .rename_i M;obtain⟨M,f⟩:=M;subst M;replace h:=aK h I;obtain⟨_,hb,h⟩:=h;obtain⟨h1,l,B⟩:=xm hb;obtain⟨v,G,F,cap',q1,q2,q3,q4,S⟩:=p4 hs X;simp only [ak] at q;rw [G] at q;simp only [Rp] at q;subst q;subst q1;refine⟨_,_,h,z f _ _ _ h1 l (by omega), ?_⟩;simp only [ak];refine⟨F,_,cap',_,G,by omega,q2,rfl, ?_⟩;by_cases e0:(g.getD 0).toNat=0
      .left;refine⟨e0, ?_⟩;rw [e0];split
       .rfl
       .cases F <;> simp [Addr.add]
      .by_cases i:cap'= (g.getD 0).toNat
       .right;left;rw [if_pos i];exact⟨i.symm,Vo,q4⟩
       .right;right;rw [if_neg i];rcases S with S | ⟨ah,off',arr,t',q6,_⟩
        .omega
        .subst q6;exact⟨ah,off',rfl,by simp [gJ]⟩
     .simp at h
    .simp at h
   .rename_i j sz off n;split at h
    .rename_i fz sz' bb xs X;split at h
     .rename_i M;obtain⟨rfl,rfl,f⟩:=M;replace h:=aK h I;obtain⟨_,hb,h⟩:=h;obtain⟨h1,l,B⟩:=xm hb;simp only [ak] at q;obtain⟨a,L,cap,F,i,e2,e3,rfl,e4⟩:=q;obtain⟨v,G,a'',cap'',q1,q2,q3,q4,S⟩:=p4 hs X;rw [G] at i;simp only [Rp] at i;subst i;simp only [SD] at q1;obtain⟨rfl,rfl,rfl⟩:=q1;refine⟨_,_,h,z f _ _ _ h1 l (by omega), ?_⟩;simp only [ak];refine⟨a,_,cap,_,G,by omega,e3,by congr 1;omega, ?_⟩;by_cases e0:(g.getD 0).toNat=0
      .have:(if cap - off= (g.getD 0).toNat then F else F.map (·.add ((g.getD 0).toNat * P.cellsOf e)))=F:=by
        rw [e0];split
        .rfl
        .cases F <;> simp [Addr.add]
       rw [this,e0,Uj];exact e4
      .by_cases e5:cap - off= (g.getD 0).toNat
       .right;left;rw [if_pos e5];refine⟨by omega, ?_, ?_⟩
        .rcases e4 with⟨_,rfl⟩ | ⟨_,C,_⟩ | ⟨b,o,rfl,rfl⟩
         .exact Vo
         .exact C
         .simp
        .trivial
       .right;right;rw [if_neg e5];rcases S with S | ⟨ah,off',arr,t',q6,_⟩
        .omega
        .subst q6;rcases e4 with⟨e7,rfl⟩ | ⟨e7,_⟩ | ⟨b,o,C,rfl⟩
         .subst e7;exact⟨ah,off',rfl,by simp [gJ]⟩
         .omega
         .exact⟨b,o,C,by simp [gJ,TO,Uc]⟩
     .simp at h
    .simp at h
   .rename_i y;split at h
    .rename_i f;replace h:=aK h I;obtain⟨p,hp,h⟩:=h;replace h:=aK h I;obtain⟨_,hb,h⟩:=h;obtain⟨h1,l,B⟩:=xm hb;rcases T.pO hp with rfl | ⟨rfl,hp2⟩
     .simp only [ak,aw] at q;rcases q with⟨i,e,rfl⟩ | ⟨i,ah,off,D,cap,rfl,G,H,g3⟩
      .rw [e] at l B h;refine⟨_,_,h,z f _ _ _ (by simpa using h1) (by simpa using l) (by simpa using B), ?_⟩;simp only [Su,Int.natCast_zero] at l B;have e5:(g.getD 0).toNat=0:=by omega
       have C:(hi.getD ((0:Nat):Int)).toNat=0:=by
        have:hi.getD ((0:Nat):Int)=hi.getD 0:=by simp
        rw [this];omega
       simp only [ak,aw,sub,Vz,U7];left;refine⟨i,trivial, ?_⟩;rw [C];simp
      .refine⟨_,_,h,z f _ _ _ h1 l (by omega), ?_⟩;simp only [ak,aw];right;refine⟨i, ?_⟩;by_cases e5:cap= (g.getD 0).toNat
       .rw [if_pos e5];have C:(hi.getD ((p.2.length:Nat):Int)).toNat - (g.getD 0).toNat=0:=by omega
        refine⟨ah,off,D,cap - (g.getD 0).toNat, ?_, ?_, .inl ?_, ?_⟩
        .simp only [sub,C,TZ,Su]
        .simp only [sub,C,TZ,Su];omega
        .simp [sub,C]
        .simp [sub,C,aU]
       .rw [if_neg e5];have J:(sub (g.getD 0) (hi.getD ((p.2.length:Nat):Int)) p.2).length= (hi.getD ((p.2.length:Nat):Int)).toNat - (g.getD 0).toNat:=by
         simp only [sub,So,Tk];omega
        rcases H with H | ⟨H,g4⟩
        .have e7:(g.getD 0).toNat=0:=by rw [H] at B;simp only [Su] at B;rw [H] at l;simp only [Su] at l;omega
         refine⟨ah,off,D,cap - (g.getD 0).toNat, ?_, ?_, .inl (by simp [sub,H]),by simp [sub,H,aU]⟩
         .rw [J,e7];simp [Addr.add]
         .rw [J];omega
        .subst H;refine⟨ah,off+ (g.getD 0).toNat * P.cellsOf e,none,cap - (g.getD 0).toNat, ?_, ?_, .inr ⟨rfl,g4⟩, ?_⟩
         .rw [J];simp only [Ts,gJ]
         .rw [J];omega
         .exact(g3.drop _).take _
     .rw [hp2] at l B h;simp only [ak,aw] at q;simp only [Su,Int.natCast_zero] at l B;have e5:(g.getD 0).toNat=0:=by omega
      have C:(hi.getD ((0:Nat):Int)).toNat=0:=by
       have:hi.getD ((0:Nat):Int)=hi.getD 0:=by simp
       rw [this];omega
      rcases q with⟨i,rfl⟩ | ⟨i,ah,off,D,rfl⟩
      .refine⟨_,_,h,z f _ _ _ (by simpa using h1) (by simpa using l) (by simpa using B), ?_⟩;simp only [ak,aw,sub,Vz,U7];left;refine⟨i,trivial, ?_⟩;rw [C];simp
      .refine⟨_,_,h,z f _ _ _ (by simpa using h1) (by simpa using l) (by simpa using B), ?_⟩;simp only [ak,aw,sub,Vz,U7,aU];right;refine⟨i,ah,off,D,0, ?_,by simp, .inl trivial,trivial⟩;rw [e5,C];simp
    .simp at h
   .simp at h
  .rename_i m;obtain⟨km,rfl⟩:=qA hm
   have z:bN P e=true->g.getD 0=0->hi.getD 1=0->m=0->∀(a:Option Addr) (len cap:Nat),
     (Instr.sliceAt t (.slice a len cap) Q N (some (.int km m))).run P w= .ok (.slice a 0 0) w:=by
    intro f h1 l B a len cap;cases hi with
    | none=>simp at l
    | some hn=>
     obtain⟨kh,rfl⟩:=qA hh;simp only [RQ] at l;subst l;subst B;have i:∀k,(Instr.sliceBound (.int km 0) cap k).run P w= .ok 0 w:=λk=>rT km 0 cap k (by omega) (by omega);have e2:∀k,(Instr.sliceBound (.int kh 0) 0 k).run P w= .ok 0 w:=λk=>rT kh 0 0 k (by omega) (by omega);cases g with
     | none=>have:=uV hl;subst this;simp [Instr.sliceAt,Instr.slice,run_underlying Y,Instr.sliceBounds,i,e2,iT f]
     | some ln=>obtain⟨kl,rfl⟩:=qA hl;simp only [RQ] at h1;subst h1;have e3:∀k,(Instr.sliceBound (.int kl 0) 0 k).run P w= .ok 0 w:=λk=>rT kl 0 0 k (by omega) (by omega);simp [Instr.sliceAt,Instr.slice,run_underlying Y,Instr.sliceBounds,i,e2,e3,iT f]
   have zs:∀{a b d:Int} {u:Unit},yF a b d=some u->a=0/\b=0/\d=0:=by
    intro a b d u hz;unfold yF at hz;split at hz
    .assumption
    .simp at hz
   split at h
   .rename_i y;split at h
    .rename_i f;replace h:=aK h I;obtain⟨p,hp,h⟩:=h;replace h:=aK h I;obtain⟨_,hz,h⟩:=h;obtain⟨U,V,W⟩:=zs hz;rcases T.pO hp with rfl | ⟨rfl,hp2⟩
     .simp only [ak,aw] at q;rcases q with⟨i,e,rfl⟩ | ⟨i,ah,off,D,cap,rfl,G,H,g3⟩
      .exact⟨_,_,h,z f U V W _ _ _,by simp only [ak,aw];exact .inl ⟨i,trivial⟩⟩
      .exact⟨_,_,h,z f U V W _ _ _,by simp only [ak,aw];exact .inr ⟨i,ah,off,D,rfl⟩⟩
     .simp only [ak,aw] at q;rcases q with⟨i,rfl⟩ | ⟨i,ah,off,D,rfl⟩
      .exact⟨_,_,h,z f U V W _ _ _,by simp only [ak,aw];exact .inl ⟨i,trivial⟩⟩
      .exact⟨_,_,h,z f U V W _ _ _,by simp only [ak,aw];exact .inr ⟨i,ah,off,D,rfl⟩⟩
    .simp at h
   .rename_i j;split at h
    .rename_i fz sz bb xs X;split at h
     .simp at h
     .rename_i f;simp only [Bool.not_eq_false] at f;replace h:=aK h I;obtain⟨_,hz,h⟩:=h;obtain⟨U,V,W⟩:=zs hz;obtain⟨v,G,F,cap',q1,q2,q3,q4,S⟩:=p4 hs X;simp only [ak] at q;rw [G] at q;simp only [Rp] at q;subst q;subst q1;refine⟨_,_,h,z f U V W _ _ _, ?_⟩;simp only [ak,aw];cases bb
      .right;cases F with
       | none=>simp at q3
       | some x=>obtain⟨b,o,D⟩:=x;exact⟨rfl,b,o,D,rfl⟩
      .left;exact⟨rfl,by rw [q3.2 rfl]⟩
    .simp at h
   .simp at h
 .simp at h
end
open Go Go.IntKind
section
variable {P:Program} {w w':World} {A A':Nat->Prop} {c:Ctx} {ρ:Id->Option Value} {O:Id->Option Nat} {s:St} {cc:Option Bool} {h:Id->Option ab}
def rN(v:AV)(i:Id):Prop:=v= .own i\/(∃sz off n,v= .part i sz off n)\/∃off,v= .ref i off
theorem nD{i:Id}{a b:Bool}{sz:Nat}{l:List (List T)}(hs:HS c w h ρ O)(hi:h i=some (.sl a sz b l)):∃v,ρ i=some v/\cM w (AA c w O) sz b l v (λah=>if a=true then AA c w O ah else O i=some ah):=by obtain⟨v,h1,d,_⟩:=hs.ah i _ hi;exact⟨v,h1,d⟩
theorem mC{v:AV}{x:T}{u:Value}(hs:HS c w h ρ O)(hv:ak w (AA c w O) ρ v u)(d:dt h v=some x)
  (k:∀b,AA c w O b->A' b) (J:∀i ah,rN v i->O i=some ah->A' ah):aw w A' x u:=by
 have mono:∀(t:T) (v:Value),aw w (AA c w O) t v->aw w A' t v:=λt v hr=>aw.mono (λb hb=>⟨k b hb,rfl⟩) t v hr;cases v <;> simp only [dt,reduceCtorEq,Rp] at d
 case t y=>subst d;simp only [ak] at hv;exact mono _ _ hv
 case own i=>
  split at d
  .rename_i F sz b xs hi;simp only [Rp] at d;subst d;obtain⟨v',G,a,cap,q1,N,q3,q4,e⟩:=nD hs hi;simp only [ak] at hv;rw [G] at hv;simp only [Rp] at hv;subst hv;subst q1;simp only [aw];cases b with
   | true=>
    left;have:a=none:=q3.2 rfl;subst this;rcases e with e | ⟨ah,off,arr,t,m,_⟩
    .have:xs= []:=RN.1 (by omega);subst this;subst e;exact⟨rfl,rfl,rfl⟩
    .cases m
   | false=>
    right;refine⟨rfl, ?_⟩;rcases e with e | ⟨ah,off,arr,t,m,q,q8,q9,p⟩
    .have:xs= []:=RN.1 (by omega);subst this;cases a with
     | none=>simp at q3
     | some y=>obtain⟨D,o,Q⟩:=y;exact⟨D,o,Q,cap,rfl,N, .inl rfl,by simp [aU]⟩
    .subst m;refine⟨ah,off,_,cap,rfl,N, .inr ⟨rfl, ?_⟩,aU.m8 (λb hb=>⟨k b hb,rfl⟩) ah sz rfl off xs p⟩;cases F
     .exact J i ah (.inl rfl) (by simpa using q)
     .exact k _ (by simpa using q)
  .simp at d
 case part i sz off n=>
  split at d
  .rename_i F B b xs hi;split at d
   .rename_i U;subst U;simp only [Rp] at d;subst d;obtain⟨v',G,a,cap,q1,N,q3,q4,e⟩:=nD hs hi;simp only [ak] at hv;obtain⟨R,L,V,C,f,W,e3,rfl,e4⟩:=hv;rw [G] at f;simp only [Rp] at f;subst f;simp only [SD] at q1;obtain⟨rfl,rfl,rfl⟩:=q1;have M:((xs.drop off).take n).length=n:=by simp only [So,Tk];omega
    simp only [aw,M];have g:C=none↔R=none:=by
     rcases e4 with⟨_,rfl⟩ | ⟨_,e5,_⟩ | ⟨S,o,rfl,rfl⟩
     .exact Vo
     .exact e5
     .simp
    cases b with
    | true=>
     left;have e5:R=none:=q3.2 rfl;subst e5;rcases e with e | ⟨ah,off',arr,t,m,_⟩
     .have E:xs= []:=RN.1 (by omega);subst E;subst e;simp only [Su] at W;have X:n=0:=by omega
      subst X;rw [g.2 rfl];exact⟨rfl,by simp,by congr 1;omega⟩
     .cases m
    | false=>
     right;refine⟨rfl, ?_⟩;by_cases hn:n=0
     .subst hn;cases C with
      | none=>have:=g.1 rfl;simp [this] at q3
      | some y=>obtain⟨D,o,Q⟩:=y;exact⟨D,o,Q,_,rfl,by omega, .inl (by simp),by simp [aU]⟩
     .rcases e with e | ⟨ah,off',arr,t,m,q,q8,q9,p⟩
      .omega
      .subst m;have Y:C=some ⟨ah,off'+off * B,none⟩:=by
        rcases e4 with⟨rfl,rfl⟩ | ⟨rfl,_⟩ | ⟨S,o,e5,E⟩
        .simp
        .omega
        .simp only [Rp,Ss] at e5;obtain⟨rfl,rfl,_⟩:=e5;exact E
       subst Y;refine⟨ah,_,_,_,rfl,by omega, .inr ⟨rfl, ?_⟩,(aU.m8 (λb hb=>⟨k b hb,rfl⟩) ah B rfl off' xs p).drop off |>.take n⟩;cases F
       .exact J i ah (.inr (.inl ⟨_,_,_,rfl⟩)) (by simpa using q)
       .exact k _ (by simpa using q)
   .simp at d
  .simp at d
 case ref i off=>
  simp only [ak] at hv;obtain⟨S,f,rfl⟩:=hv;split at d
  .rename_i cs hi;obtain⟨l,hl,d⟩:=Rq.1 d;simp only [Rp] at d;subst d;obtain⟨b,arr,t',h1,z,H,I,h5,Z⟩:=zz (s:=⟨λ_=>(none, .top),h⟩) hs hi;rw [h1] at f;simp only [Rp,Tq,Ss] at f;obtain⟨rfl,_⟩:=f;simp only [aw];refine⟨b,off,rfl, .inr (J i b (.inr (.inr ⟨_,rfl⟩)) z), ?_⟩;have hT:=aN.lC hl I;have key:∀(l:List T) (vs:List Value) (off:Nat),aN w (AA c w O) l vs->(∀j v,vs[j]? =some v->w.cell? ⟨b,off+j,none⟩=some v)->aS w A' b off l:=by
    intro l;induction l with
    | nil=>intro vs off _ _;simp [aS]
    | cons x l ih=>rintro vs off ⟨v,r,rfl,h1,z⟩ hv;simp only [aS];refine⟨⟨v,by simpa using hv 0 v rfl,mono _ _ h1⟩,ih r (off+1) z λj u K=> ?_⟩;have:=hv (j+1) u (by simpa using K);rw [show off+1+j=off+ (j+1) by omega];exact this
   have:=(key l _ 0 hT λj v K=>by rw [RY];exact Z j v K).drop off;rwa [RY] at this
  .rename_i l hi;simp only [Rp] at d;subst d;obtain⟨b,h1,z,H,I⟩:=hs.ah i _ hi;rw [h1] at f;simp only [Rp,Tq,Ss] at f;obtain⟨rfl,_⟩:=f;simp only [aw];refine⟨b,off,rfl, .inr (k b H), ?_⟩;have:=(aS.mono (λb hb=>⟨k b hb,rfl⟩) b H 0 l I).drop off;rwa [RY] at this
  .simp at d
def HL(v:AV)(i:Id):Prop:=rN v i\/∃vs,v= .agg vs/\∃u∈vs,rN u i
theorem Iv(hs:HS c w h ρ O)(e:∀b,AA c w O b->A' b):∀{vs:List AV} {xs:List T} {us:List Value},ay w (AA c w O) ρ vs us->kI h vs=some xs->
  (∀i ah,(∃u∈vs,rN u i)->O i=some ah->A' ah)->aN w A' xs us
 | [],xs,us,hv,a,_=>by simp only [kI,Rp] at a;subst a;simpa [ay,aN] using hv
 | v::vs,xs,us,hv,a,f=>by
  simp only [kI] at a;cases h1:dt h v with
  | none=>simp [h1] at a
  | some x=>
   cases d:kI h vs with
   | none=>simp [h1,d] at a
   | some l=>simp only [h1,d,RA,Rp] at a;subst a;simp only [ay] at hv;obtain⟨u,r,rfl,g,j⟩:=hv;exact⟨u,r,rfl,mC hs g h1 e (λi ah hi=>f i ah ⟨v,Rs,hi⟩),Iv hs e j d (λi ah ⟨u,k,hi⟩=>f i ah ⟨u,Ru _ k,hi⟩)⟩
theorem PL{v:AV}{x:T}{u:Value}(hs:HS c w h ρ O)(hv:ak w (AA c w O) ρ v u)(a:dt h v=some x):u.oneCell'=true/\u.cells= #[u]:=
 (mC (A':=λ_=>True) hs hv a (λ_ _=>trivial) (λ_ _ _ _=>trivial)).pR
theorem PM{v:AV}{xs:List T}{u:Value}(hs:HS c w h ρ O)(hv:ak w (AA c w O) ρ v u)(a:kH h v=some xs)(f:∀b,AA c w O b->A' b)
  (g:∀i ah,HL v i->O i=some ah->A' ah):aN w A' xs u.cells.toList/\∀y∈u.cells.toList,y.oneCell'=true/\y.cells= #[y]:=by
 have one:∀x,dt h v=some x->xs= [x]->aN w A' xs u.cells.toList/\∀y∈u.cells.toList,y.oneCell'=true/\y.cells= #[y]:=by intro x d e;subst e;have l:=mC hs hv d f (λi ah hi=>g i ah (.inl hi));have h1:=PL hs hv d;rw [h1.2];exact⟨⟨u,[],rfl,l,rfl⟩,by intro y hy;simp at hy;subst hy;exact h1⟩
 cases v
 case agg vs=>simp only [kH] at a;simp only [ak] at hv;obtain⟨m,rfl,j,k⟩:=hv;refine⟨?_,by simpa [Value.cells] using k⟩;have:=Iv hs f j a (λi ah hi=>g i ah (.inr ⟨vs,rfl,hi⟩));simpa [Value.cells] using this
 all_goals
  unfold kH at a;obtain⟨x,d,e⟩:=Rq.1 a;exact one x d (R1 e).symm
def qf(p:Id×ab)(x:Option ab):Prop:=(∃sz b xs,p.2= .sl true sz b xs/\(x=some (.sl false sz b xs)\/x=some (.sl true sz b xs)))\/
 ∃l,p.2= .ir l/\((∃cs,x=some (.box cs)/\eO cs=some l)\/x=some (.ir l))
def gp(h:Id->Option ab)(us:aG):Prop:= ∀p∈us,qf p (h p.1)
theorem qf.again{i:Id}{b m:ab}{x:Option ab}(h1:qf (i,b) x)(p:qf (i,m) x):m=b/\qf (i,m) (some b):=by
 rcases h1 with⟨sz,bb,xs,f,d⟩ | ⟨l,f,d⟩
 .rcases p with⟨j,g,k,e,a⟩ | ⟨q,e,a⟩
  .simp only at f e;have:j=sz/\g=bb/\k=xs:=by
    rcases d with rfl | rfl <;> rcases a with a | a <;> simp at a <;> simp [a]
   obtain⟨rfl,rfl,rfl⟩:=this;exact⟨by rw [f,e], .inl ⟨_,_,_,e, .inr (by rw [f])⟩⟩
  .rcases d with rfl | rfl <;> rcases a with⟨cs,a,_⟩ | a <;> simp at a
 .rcases p with⟨j,g,k,e,a⟩ | ⟨q,e,a⟩
  .rcases a with rfl | rfl <;> rcases d with⟨cs,d,_⟩ | d <;> simp at d
  .simp only at f e;have:q=l:=by
    rcases d with⟨cs,rfl,d⟩ | rfl
    .rcases a with⟨o,a,n⟩ | a
     .simp only [Rp,ab.box.injEq] at a;subst a;rw [d] at n;simpa using n.symm
     .simp at a
    .rcases a with⟨o,a,n⟩ | a
     .simp at a
     .simpa using a.symm
   subst this;exact⟨by rw [f,e], .inr ⟨_,e, .inr (by rw [f])⟩⟩
theorem HS.shut(hs:HS c w h ρ O){i:Id}{b:ab}(g:qf (i,b) (h i)):
  ∃a,Le w ρ O w ρ a/\HS c w (aA h i (some b)) ρ a/\(∀j,a j=O j\/a j=none)/\a i=none/\∀j,j≠i->a j=O j:=by
 have self:∀(f:Id->Option ab) (v:Option ab),f i=v->aA f i v=f:=by
  intro f v h;funext j;unfold aA;split
  .rename_i e;rw [e,h]
  .rfl
 have rel:∀{x:Option ab},HS c w (aA h i x) ρ (aA O i none)->∃a,Le w ρ O w ρ a/\HS c w (aA h i x) ρ a/\(∀j,a j=O j\/a j=none)/\a i=none/\∀j,j≠i->a j=O j:=by
  intro x n;exact⟨_,Le.release,n,λj=>by
   by_cases e:j=i
   .subst e;right;simp
   .left;exact aq _ _ e,by simp,λj e=>aq _ _ e⟩
 have same:h i=some b->O i=none->∃a,Le w ρ O w ρ a/\HS c w (aA h i (some b)) ρ a/\(∀j,a j=O j\/a j=none)/\a i=none/\∀j,j≠i->a j=O j:=by intro h1 k;exact⟨O,Le.refl,by rw [self _ _ h1];exact hs,λj=> .inl rfl,k,λ_ _=>rfl⟩
 rcases g with⟨sz,bb,xs,e,hi⟩ | ⟨l,e,hi⟩
 .simp only at e;subst e;rcases hi with hi | hi
  .exact rel (hs.freeze hi)
  .obtain⟨_,_,_,d⟩:=hs.ah i _ hi;exact same hi (d rfl)
 .simp only at e;subst e;rcases hi with⟨cs,hi,m⟩ | hi
  .exact rel (hs.Mw hi m)
  .obtain⟨_,_,d,_⟩:=hs.ah i _ hi;exact same hi d
theorem tA(v:AV):gp h (gM h v):=by
 intro p a;unfold gM at a;split at a
 .split at a
  .rename_i i sz b xs hi;simp only [RF] at a;subst a;exact .inl ⟨sz,b,xs,rfl, .inl hi⟩
  .cases a
 .split at a
  .rename_i i _ _ _ sz b xs hi;simp only [RF] at a;subst a;exact .inl ⟨sz,b,xs,rfl, .inl hi⟩
  .cases a
 .split at a
  .rename_i i _ cs hi;split at a
   .rename_i l d;simp only [RF] at a;subst a;exact .inr ⟨l,rfl, .inl ⟨cs,hi,d⟩⟩
   .cases a
  .cases a
 .cases a
theorem gp.append{us vs:aG}(h1:gp h us)(b:gp h vs):gp h (us++vs):=by
 intro p a;rcases RM.1 a with a | a
 .exact h1 p a
 .exact b p a
theorem Az:∀(vs:List AV),gp h (mb h vs)
 | []=>by intro p a;cases a
 | v::vs=>(tA v).append (Az vs)
theorem AD(v:AV):gp h (gz h v):=by
 unfold gz;split
 .exact Az _
 .exact tA v
theorem yC{a:Type}(f:Id->Option a)(i:Id)(v:Option a)(h:f i=v):aA f i v=f:=by
 funext j;unfold aA;split
 .rename_i e;rw [e,h]
 .rfl
theorem HS.Fx:∀{us:aG} {h:Id->Option ab} {O:Id->Option Nat},HS c w h ρ O->gp h us->
  ∃O',Le w ρ O w ρ O'/\HS c w (aJ h us) ρ O'/\(∀i,O' i=O i\/O' i=none)/\(∀p∈us,O' p.1=none)/\∀i,(∀p∈us,p.1≠i)->O' i=O i
 | [],h,O,hs,_=>⟨O,Le.refl,hs,λi=> .inl rfl,by simp,λ_ _=>rfl⟩
 | (i,b)::us,h,O,hs,d=>by
  have hi:=d (i,b) Rs;obtain⟨z,n,o,q,r,t⟩:=hs.shut hi;have g:gp (aA h i (some b)) us:=by
   intro p a;have f:=d p (Ru _ a);by_cases e:p.1=i
   .obtain⟨j,x⟩:=p;simp only at e f;subst e;rw [aC];exact(hi.again f).2
   .rw [aq _ _ e];exact f
  obtain⟨m,u,k2,l,v,y⟩:=HS.Fx o g;refine⟨m,n.trans u,k2,λj=> ?_,λp a=> ?_,λj k=> ?_⟩
  .rcases l j with e | e
   .rw [e];exact q j
   .exact .inr e
  .rcases RC.1 a with rfl | a
   .rcases l i with e | e
    .rw [e];exact r
    .exact e
   .exact v p a
  .rw [y j (λp a=>k p (Ru _ a)),t j (λe=>k (i,b) Rs e.symm)]
theorem xd(hs:HS c w h ρ O){v:AV}{x:T}(a:dt h v=some x){i:Id}{ah:Nat}(hi:rN v i)(d:O i=some ah):∃p∈gM h v,p.1=i:=by
 rcases hi with rfl | ⟨sz,off,n,rfl⟩ | ⟨off,rfl⟩
 .simp only [dt] at a;split at a
  .rename_i f sz b xs hi;cases f
   .exact⟨(i, .sl true sz b xs),by simp [gM,hi],rfl⟩
   .obtain⟨_,_,_,e⟩:=hs.ah i _ hi;rw [e rfl] at d;cases d
  .simp at a
 .simp only [dt] at a;split at a
  .rename_i f g b xs hi;cases f
   .exact⟨(i, .sl true g b xs),by simp [gM,hi],rfl⟩
   .obtain⟨_,_,_,e⟩:=hs.ah i _ hi;rw [e rfl] at d;cases d
  .simp at a
 .simp only [dt] at a;split at a
  .rename_i cs hi;obtain⟨l,j,_⟩:=Rq.1 a;exact⟨(i, .ir l),by simp [gM,hi,j],rfl⟩
  .rename_i l hi;obtain⟨_,_,e,_⟩:=hs.ah i _ hi;rw [e] at d;cases d
  .simp at a
theorem FB(hs:HS c w h ρ O):∀{vs:List AV} {xs:List T},kI h vs=some xs->∀{i:Id} {ah:Nat},(∃u∈vs,rN u i)->O i=some ah->∃p∈mb h vs,p.1=i
 | [],_,_,i,ah,⟨u,hu,_⟩,_=>by cases hu
 | v::vs,xs,a,i,ah,⟨u,hu,hi⟩,f=>by
  simp only [kI] at a;cases h1:dt h v with
  | none=>simp [h1] at a
  | some x=>
   cases d:kI h vs with
   | none=>simp [h1,d] at a
   | some l=>
    rcases RC.1 hu with rfl | hu
    .obtain⟨p,b,e⟩:=xd hs h1 hi f;exact⟨p,RD _ b,e⟩
    .obtain⟨p,b,e⟩:=FB hs d ⟨u,hu,hi⟩ f;exact⟨p,RE _ b,e⟩
theorem My(hs:HS c w h ρ O){v:AV}{xs:List T}(a:kH h v=some xs){i:Id}{ah:Nat}(hi:HL v i)(d:O i=some ah):∃p∈gz h v,p.1=i:=by
 rcases hi with hi | ⟨vs,rfl,hi⟩
 .have:∃x,dt h v=some x:=by
   rcases hi with rfl | ⟨_,_,_,rfl⟩ | ⟨_,rfl⟩ <;> exact(Rq.1 a).elim λx b=>⟨x,b.1⟩
  obtain⟨x,b⟩:=this;obtain⟨p,f,e⟩:=xd hs b hi d;refine⟨p, ?_,e⟩;rcases hi with rfl | ⟨_,_,_,rfl⟩ | ⟨_,rfl⟩ <;> exact f
 .exact FB hs a hi d
theorem B8{v:AV}{xs:List T}{u:Value}{O':Id->Option Nat}(hs:HS c w h ρ O)(hv:ak w (AA c w O) ρ v u)(g:kH h v=some xs)(le:Le w ρ O w ρ O')(k:∀i,O' i=O i\/O' i=none)
  (l:∀p∈gz h v,O' p.1=none):aN w (AA c w O') xs u.cells.toList/\∀y∈u.cells.toList,y.oneCell'=true/\y.cells= #[y]:=by
 refine PM hs hv g (λb hb=>(le.A b hb).1) (λi ah hi f=> ?_);obtain⟨p,m,e⟩:=My hs g hi f;refine⟨.inr (hs.own i ah f),hs.lt i ah f,λj a=> ?_⟩;rcases k j with d | d
 .rw [d] at a;have:=hs.inj j i ah a f;subst this;have:=l p m;rw [e,d,a] at this;cases this
 .rw [d] at a;cases a
theorem jM(hs:HS c w h ρ O){i:Id}{u:Value}(d:ρ i=some u):u.oneCell'=true/\u.cells= #[u]:=by
 cases hi:h i with
 | none=>
  cases f:i.real with
  | true=>rw [(hs.cr i f hi).1] at d;cases d
  | false=>
   cases i with
   | g i n=>exact hs.gone i n u d
   | _=>cases f
 | some b=>
  have:=hs.ah i b hi;cases b with
  | box cs=>obtain⟨b,_,_,h1,_⟩:=this;rw [d] at h1;simp only [Rp] at h1;subst h1;exact⟨rfl,rfl⟩
  | sl j sz b xs=>obtain⟨v,h1,⟨a,cap,e,_⟩,_⟩:=this;rw [d] at h1;simp only [Rp] at h1;subst h1;subst e;exact⟨rfl,rfl⟩
  | ir l=>obtain⟨b,h1,_⟩:=this;rw [d] at h1;simp only [Rp] at h1;subst h1;exact⟨rfl,rfl⟩
  | mp ag ks vk es=>obtain⟨b,_,_,h1,_⟩:=this;rw [d] at h1;simp only [Rp] at h1;subst h1;exact⟨rfl,rfl⟩
  | arr cs=>obtain⟨b,_,_,h1,_⟩:=this;rw [d] at h1;simp only [Rp] at h1;subst h1;exact⟨rfl,rfl⟩
  | rows b sz az rsz nx es=>obtain⟨a,cap,h1,_⟩:=this;rw [d] at h1;simp only [Rp] at h1;subst h1;exact⟨rfl,rfl⟩
  | dead=>obtain⟨⟨v,h1,e⟩,_⟩:=this;rw [d] at h1;simp only [Rp] at h1;subst h1;exact e
theorem OJ(hs:HS c w h ρ O){v:AV}{u:Value}(hv:ak w A ρ v u)(a:pw v=true):u.oneCell'=true/\u.cells= #[u]:=by
 cases v <;> simp only [pw,RS] at a <;> simp only [ak] at hv
 case t=>exact hv.pR
 case ref=>obtain⟨b,_,rfl⟩:=hv;exact⟨rfl,rfl⟩
 case el=>obtain⟨_,_,_,_,_,rfl⟩:=hv;exact⟨rfl,rfl⟩
 case own=>exact jM hs hv
 case part=>obtain⟨_,_,_,_,_,_,_,rfl,_⟩:=hv;exact⟨rfl,rfl⟩
 case row=>exact hs.gone _ _ _ hv
 case rel=>obtain⟨_,_,_,_,_,rfl⟩:=hv;exact⟨rfl,rfl⟩
 case fn=>obtain⟨_,_,rfl,_⟩:=hv;exact⟨rfl,rfl⟩
theorem wc(hs:HS c w h ρ O){v:AV}{u:Value}(hv:ak w A ρ v u)(a:(gK v).all pw=true):ay w A ρ (gK v) u.cells.toList/\∀y∈u.cells.toList,y.oneCell'=true/\y.cells= #[y]:=by
 have one:gK v= [v]->ay w A ρ (gK v) u.cells.toList/\∀y∈u.cells.toList,y.oneCell'=true/\y.cells= #[y]:=by intro e;rw [e] at a⊢;simp only [SZ,List.all_nil,Us] at a;have h1:=OJ hs hv a;rw [h1.2];refine⟨by simp only [ay];exact⟨u,[],rfl,hv,rfl⟩, ?_⟩;intro y hy;simp at hy;subst hy;exact h1
 cases v
 case agg vs=>simp only [ak] at hv;obtain⟨d,rfl,h1,b⟩:=hv;exact⟨by simpa [gK,Value.cells] using h1,by simpa [Value.cells] using b⟩
 all_goals exact one rfl
end
open Go Go.IntKind
section
variable {P:Program} {w w':World} {A A':Nat->Prop} {c:Ctx} {ρ:Id->Option Value} {O:Id->Option Nat} {s:St} {cc:Option Bool} {h:Id->Option ab}
theorem sX{b:Nat}{arr:Array Value}{t:TypeId}{a:Nat×Nat}(hb:w.heap[b]? =some (.cells arr t a))(cs:Array Value)(p:Nat):(w.setRow b cs).cell? ⟨b,p,none⟩=cs[p]?:=by simp only [World.cell?,setRow_heap w b arr cs t a hb];rfl
theorem ke{b:Nat}{arr:Array Value}{t:TypeId}{a:Nat×Nat}(hb:w.heap[b]? =some (.cells arr t a))(p:Nat):w.cell? ⟨b,p,none⟩=arr[p]?:=by simp only [World.cell?,hb];rfl
theorem pY(w:World)(b:Nat)(cs:Array Value):(w.setRow b cs).heap.size=w.heap.size:=by simp [World.setRow]
theorem rO{d:Type}(off:Nat)(new a:List d)(e:off+new.length<=a.length)(p:Nat):(bQ off new a)[p]? =if off<=p/\p < off+new.length then new[p - off]? else a[p]?:=by
 unfold bQ;rw [R6];have h1:(a.take off).length=off:=by rw [So];omega
 by_cases h:p < off
 .rw [SH (by omega),if_neg (by omega),T4,if_pos h]
 .rw [Sp (by omega),h1];by_cases b:p < off+new.length
  .rw [SH (by omega),if_pos ⟨by omega,b⟩]
  .rw [Sp (by omega),if_neg (by omega),T5];congr 1;omega
theorem pW{b:Type}(off:Nat)(new a:List b)(d:off+new.length<=a.length):(bQ off new a).length=a.length:=by simp only [bQ,Sw,So,Tk];omega
theorem aS.kB{ah:Nat}:∀{l:List T} {vs:List Value} {off:Nat},aN w A l vs->(∀j v,vs[j]? =some v->w.cell? ⟨ah,off+j,none⟩=some v)->aS w A ah off l
 | [],_,_,_,_=>by simp [aS]
 | x::l,vs,off,⟨v,r,e,h1,a⟩,hv=>by subst e;simp only [aS];refine⟨⟨v,by simpa using hv 0 v rfl,h1⟩,aS.kB a λj u b=> ?_⟩;have:=hv (j+1) u (by simpa using b);rw [show off+1+j=off+ (j+1) by omega];exact this
theorem aS.cells{ah:Nat}(a:∀b,A b->A' b/\w'.heap[b]? =w.heap[b]?):∀{cs:List T} {off:Nat},(∀j,j < cs.length->w'.cell? ⟨ah,off+j,none⟩=w.cell? ⟨ah,off+j,none⟩)->aS w A ah off cs->aS w' A' ah off cs
 | [],_,_,_=>by simp [aS]
 | x::cs,off,d,e=>by
  simp only [aS] at e⊢;obtain⟨⟨v,h1,f⟩,g⟩:=e;refine⟨⟨v, ?_,aw.mono a x v f⟩,aS.cells a (λj i=> ?_) g⟩
  .have:=d 0 (by simp);simp only [Uj] at this;rw [this];exact h1
  .have:=d (j+1) (by simp;omega);rw [show off+1+j=off+ (j+1) by omega];exact this
theorem aS.append{ah:Nat}:∀{a b:List T} {off:Nat},aS w A ah off a->aS w A ah (off+a.length) b->aS w A ah off (a++b)
 | [],b,off,_,h=>by simpa using h
 | x::a,b,off,h,d=>by
  simp only [aS,Rx] at h⊢;refine⟨h.1,aS.append h.2 ?_⟩;have:off+1+a.length=off+ (x::a).length:=by simp;omega
  rw [this];exact d
theorem aS.take{ah:Nat}:∀{cs:List T} {off:Nat},aS w A ah off cs->∀n,aS w A ah off (cs.take n)
 | _,_,_,0=>by simp [aS]
 | [],_,_,n+1=>by simp [aS]
 | x::cs,off,h,n+1=>by simp only [aS,Ur] at h⊢;exact⟨h.1,aS.take h.2 n⟩
theorem aU.cells{ah sz:Nat}(d:∀b,A b->A' b/\w'.heap[b]? =w.heap[b]?):∀{xs:List (List T)} {off:Nat},(∀p,off<=p->p < off+xs.length * sz->w'.cell? ⟨ah,p,none⟩=w.cell? ⟨ah,p,none⟩)->aU w A ah sz off xs->aU w' A' ah sz off xs
 | [],_,_,_=>by simp [aU]
 | cs::xs,off,f,a=>by
  simp only [aU] at a⊢;have e:(cs::xs).length * sz=sz+xs.length * sz:=by simp [Sn];omega
  refine⟨a.1,aS.cells d (λj i=>f _ (by omega) (by rw [e];omega)) a.2.1,aU.cells d (λp h1 g=>f p (by omega) (by rw [e];omega)) a.2.2⟩
theorem aU.set{ah sz:Nat}(i:∀b,A b->A' b/\w'.heap[b]? =w.heap[b]?):∀{xs:List (List T)} {off k:Nat} {new:List T},aU w A ah sz off xs->k < xs.length->new.length=sz->aS w' A' ah (off+k * sz) new->
  (∀p,off<=p->p < off+xs.length * sz->¬(off+k * sz<=p/\p < off+k * sz+sz)->w'.cell? ⟨ah,p,none⟩=w.cell? ⟨ah,p,none⟩)->aU w' A' ah sz off (xs.set k new)
 | [],_,_,_,_,l,_,_,_=>by simp at l
 | cs::xs,off,0,new,d,_,m,a,f=>by
  simp only [aU,Vs] at d⊢;have e:(cs::xs).length * sz=sz+xs.length * sz:=by simp [Sn];omega
  exact⟨m,by simpa using a,aU.cells i (λp h1 n=>f p (by omega) (by rw [e];omega) (by omega)) d.2.2⟩
 | cs::xs,off,k+1,new,d,l,m,a,f=>by
  simp only [aU,Ut] at d⊢;have e:(cs::xs).length * sz=sz+xs.length * sz:=by simp [Sn];omega
  have g:(k+1) * sz=sz+k * sz:=by rw [Sn];omega
  refine⟨d.1,aS.cells i (λj q=>f _ (by omega) (by rw [e];omega) (by rw [g];omega)) d.2.1,aU.set i d.2.2 (by simpa using l) m ?_ (λp h1 n o=>f p (by omega) (by rw [e];omega) (by rw [g];omega))⟩;rw [show off+sz+k * sz=off+ (k+1) * sz by rw [g];omega];exact a
theorem ay.bQ{as l:List AV}{vs us:List Value}(h:ay w A ρ as vs)(a:ay w A ρ l us)(off:Nat):ay w A ρ (bQ off l as) (bQ off us vs):=by unfold Aev.bQ;have:=a.length;rw [this];exact((h.take off).append a).append (h.drop _)
theorem aS.bQ{ah base off:Nat}{cs l:List T}(h1:aS w A ah base (cs.take off))(a:aS w A ah (base+off) l)(b:aS w A ah (base+off+l.length) (cs.drop (off+l.length)))(d:off<=cs.length):aS w A ah base (bQ off l cs):=by
 unfold Aev.bQ;rw [R6];have lt:(cs.take off).length=off:=by rw [So];omega
 exact aS.append h1 (aS.append (by rw [lt];exact a) (by rw [lt];exact b))
theorem x8{t:TypeId}(e:bN P t=true){b off:Nat}{arr:Array Value}{tt:TypeId}{v:Value}(hb:w.heap[b]? =some (.cells arr tt (0,0)))(d:v.cells.size=P.cellsOf t)(a:off+v.cells.toList.length<=arr.size)
  (h1:∀u∈v.cells.toList,u.oneCell'=true):(storeVar t ⟨b,off,none⟩ v).run P w= .ok () (w.setRow b (bQ off v.cells.toList arr.toList).toArray):=by
 unfold storeVar;simp only [RO,iT e,RB,d,ne_eq,not_true_eq_false,if_false];have:=run_storeCells_at P b off tt v.cells.toList 0 arr w hb (by simpa using a) h1;simp only [Uj] at this;rw [this];rfl
theorem Fz{v:AV}{p:Id×ab}(a:p∈gM h v):p.1∈v.ids:=by
 unfold gM at a;split at a
 .split at a
  .simp only [RF] at a;subst a;simp [AV.ids]
  .cases a
 .split at a
  .simp only [RF] at a;subst a;simp [AV.ids]
  .cases a
 .split at a
  .split at a
   .simp only [RF] at a;subst a;simp [AV.ids]
   .cases a
  .cases a
 .cases a
theorem FC:∀{vs:List AV} {p:Id×ab},p∈mb h vs->p.1∈bT vs
 | [],p,a=>by cases a
 | v::vs,p,a=>by
  simp only [mb,RM] at a;simp only [bT,RM];rcases a with a | a
  .exact .inl (Fz a)
  .exact .inr (FC a)
theorem FE{v:AV}{p:Id×ab}(a:p∈gz h v):p.1∈v.ids:=by
 unfold gz at a;split at a
 .simp only [AV.ids];exact FC a
 .exact Fz a
theorem dI:∀{us:aG} {h:Id->Option ab} {i:Id},(∀p∈us,p.1≠i)->aJ h us i=h i
 | [],_,_,_=>rfl
 | (j,b)::us,h,i,a=>by rw [cX,dI (λp d=>a p (Ru _ d)),aq _ _ (λe=>a (j,b) Rs e.symm)]
theorem uI:∀{us:aG} {h:Id->Option ab} {i:Id} {b:ab},(∀p∈us,p.1≠i)->aJ (aA h i (some b)) us=aA (aJ h us) i (some b)
 | [],_,_,_,_=>rfl
 | (j,x)::us,h,i,b,f=>by
  rw [cX,cX,<-uI (λp g=>f p (Ru _ g))];congr 1;funext k;have:j≠i:=λe=>f (j,x) Rs e;by_cases a:k=j
  .subst a;rw [aC,aq _ _ this,aC]
  .by_cases d:k=i
   .subst d;rw [aq _ _ a,aC,aC]
   .rw [aq _ _ a,aq _ _ d,aq _ _ d,aq _ _ a]
theorem HS.rq{us:aG}(hs:HS c w h ρ O)(a:gp h us):
  ∃O',Le w ρ O w ρ O'/\HS c w (aJ h us) ρ O'/\(∀i,O' i=O i\/O' i=none)/\(∀p∈us,O' p.1=none)/\∀i,(∀p∈us,p.1≠i)->O' i=O i:=HS.Fx hs a
theorem ye{b:Nat}{i:Id}(hi:O i=some b)(cs:Array Value):Le w ρ O (w.setRow b cs) ρ O:=
 Le.write hi rfl rfl rfl (pY w b cs) λk a=>setRow_other w b k cs a
theorem cM.put{t:TypeId}{sz k off b o L cap:Nat}{bb:Bool}{xs J:List (List T)}{l:List T}{d:Value}{Q:Nat->Prop}(R:cM w A sz bb xs (.slice (some ⟨b,o,none⟩) L cap) Q)(hy:bI k off l xs=some J)(S:bN P t=true)
  (K:l.length=P.cellsOf t) (B:aN w A l d.cells.toList) (M:∀u∈d.cells.toList,u.oneCell'=true/\u.cells= #[u]):
  ∃cs,Q b/\(storeVar t ⟨b,o+k * sz+off,none⟩ d).run P w= .ok () (w.setRow b cs)/\
   ∀A' z,(∀m,A m->A' m/\(w.setRow b cs).heap[m]? =w.heap[m]?)->z b->cM (w.setRow b cs) A' sz bb J (.slice (some ⟨b,o,none⟩) L cap) z:=by
 obtain⟨a',cap',q1,V,q3,W,F⟩:=R;simp only [SD] at q1;obtain⟨rfl,rfl,rfl⟩:=q1;unfold bI at hy;cases g:xs[k]? with
 | none=>simp [g] at hy
 | some cs=>
  simp only [g] at hy;split at hy
  .rename_i n;simp only [Rp] at hy;subst hy;have D:k < xs.length:=(Rz.1 g).1;rcases F with F | ⟨ah,off',arr,I,G,X,r,Y,y⟩
   .omega
   .simp only [Rp,Ss] at G;obtain⟨rfl,rfl,_⟩:=G;obtain⟨E,v⟩:=y.get g;have gl:=B.length;have N:(k+1) * sz<=cap * sz:=Sc _ (by omega);have e2:(k+1) * sz=k * sz+sz:=Sn _ _;have e:o+k * sz+off+d.cells.toList.length<=arr.size:=by omega
    have H:=x8 (P:=P) S r (by rw [<-RR,gl,K]) e (λu U=>(M u U).1);refine⟨_,X,H,λA' z f C=> ?_⟩;have x:(xs.set k (bQ off l cs)).length=xs.length:=by simp
    refine⟨some ⟨b,o,none⟩,cap,by rw [x],by rw [x];exact V,q3,W, .inr ⟨b,o,_,I,rfl,C,setRow_heap w b arr _ I (0,0) r, ?_, ?_⟩⟩
    .have:=pW (o+k * sz+off) d.cells.toList arr.toList (by simpa using e);simp only [SY];rw [this];simpa using Y
    .have a:∀p,(w.setRow b (bQ (o+k * sz+off) d.cells.toList arr.toList).toArray).cell? ⟨b,p,none⟩=if o+k * sz+off<=p/\p < o+k * sz+off+d.cells.toList.length then d.cells.toList[p - (o+k * sz+off)]? else w.cell? ⟨b,p,none⟩:=by
      intro p;rw [sX r,T8,rO _ _ _ (by simpa using e),ke r];simp
     have q:(bQ off l cs).length=sz:=by rw [pW off l cs n,E]
     refine aU.set f y D q ?_ ?_
     .refine aS.bQ (aS.cells f (λj i=> ?_) (v.take off)) ?_ ?_ (by omega)
      .have lt:(cs.take off).length=off:=by rw [So];omega
       rw [lt] at i;rw [a,if_neg (by omega)]
      .refine aS.kB (aN.mono f _ _ B) (λj u i=> ?_);have Z:j < d.cells.toList.length:=(Rz.1 i).1;rw [a,if_pos (by omega)];rw [show o+k * sz+off+j - (o+k * sz+off)=j by omega];exact i
      .have:=v.drop (off+l.length);rw [show o+k * sz+off+l.length=o+k * sz+ (off+l.length) by omega];refine aS.cells f (λj i=> ?_) this;rw [a,if_neg (by omega)]
     .intro p h1 h2 h3;rw [a,if_neg (by omega)]
  .simp at hy
theorem wW{n:Nat}{p:Bool×List (List T)}:∀{es:List Row},br n es=some p->∃k e,es[k]? =some e/\e.n=n/\e.own=some p/\∀q,dr n q es=es.set k {e with own:=q}
 | [],h=>by simp [br] at h
 | e::es,h=>by
  unfold br at h;by_cases c:e.n=n
  .rw [if_pos c] at h;exact⟨0,e,rfl,c,h,λq=>by simp [dr,c]⟩
  .rw [if_neg c] at h;obtain⟨k,a,h1,b,d,f⟩:=wW h;exact⟨k+1,a,by simpa using h1,b,d,λq=>by simp [dr,c,f]⟩
theorem tR{es:List Row}(h:(es.map (·.n)).Nodup){j k:Nat}{x y:Row}(f:es[j]? =some x)(g:es[k]? =some y)(e:x.n=y.n):j=k:=by
 have h1:(es.map (·.n))[j]? =some x.n:=by simp [f]
 have d:(es.map (·.n))[k]? =some x.n:=by simp [g,e]
 obtain⟨i,a⟩:=Rz.1 h1;obtain⟨l,b⟩:=Rz.1 d;exact(List.getElem_inj h).1 (a.trans b.symm)
theorem GU:∀{l:List Nat} {k x:Nat},l.Nodup->x∉l->(l.set k x).Nodup
 | [],_,_,_,_=>by simp
 | a::l,0,x,b,d=>by simp only [Vs,SB,RC,not_or] at b d⊢;exact⟨d.2,b.2⟩
 | a::l,k+1,x,b,d=>by
  simp only [Ut,SB,RC,not_or] at b d⊢;refine⟨λhm=> ?_,GU b.2 d.2⟩;rcases RV hm with h | h
  .exact b.1 h
  .exact d.1 h.symm
theorem MN{O':Id->Option Nat}(hs:HS c w h ρ O)(a:Id->Option Id)(d:∀k b,O' k=some b->∃x,a k=some x/\O x=some b)(e:∀k f x,a k=some x->a f=some x->k=f):∀i j b,O' i=some b->O' j=some b->i=j:=by intro i j b hi g;obtain⟨x,l,x2⟩:=d i b hi;obtain⟨y,m,n⟩:=d j b g;have:=hs.inj x y b x2 n;subst this;exact e i j x l m
theorem HS.Oo{i j:Id}{b bb:Bool}{sz az rsz nx k ah:Nat}{es:List Row}{e:Row}{xs:List (List T)}{G:Value}{cs:Array Value}(hs:HS c w h ρ O)(hi:h i=some (.rows b sz az rsz nx es))(U:h j=some (.sl false rsz bb xs))(R:es[k]? =some e)(hv:ρ j=some G)
  {a:Option Addr} {cap:Nat} (hρ:ρ i=some (.slice a es.length cap)) {off:Nat} {arr:Array Value} {t:TypeId} (ha:a=some ⟨ah,off,none⟩) (hO:O i=some ah) (hb:w.heap[ah]? =some (.cells arr t (0,0))) (hfit:off+cap * sz<=arr.size)
  (Y:cs= (bQ (off+k * sz+az) [G] arr.toList).toArray):
  ∃ρ' O',Le w ρ O (w.setRow ah cs) ρ' O'/\HS c (w.setRow ah cs) (aA (aA h j (some .dead)) i (some (.rows b sz az rsz (nx+1) (es.set k ⟨nx,e.cs,some (bb,xs)⟩)))) ρ' O':=by
 obtain⟨a',cap',r1,r2,r3,⟨n1,X,n3,n4⟩,r5⟩:=hs.ah i _ hi;rw [hρ] at r1;simp only [Rp,SD] at r1;obtain⟨rfl, -,rfl⟩:=r1;have hlt:k < es.length:=(Rz.1 R).1;have M:b9 w (AA c w O) ρ O i ah sz az rsz off es:=by
  rcases r5 with r5 | ⟨blk',off',arr',t',q1,q2,q3,q4,q5⟩
  .omega
  .rw [ha] at q1;simp only [Rp,Ss] at q1;obtain⟨rfl,rfl,_⟩:=q1;exact q5
 have hen:e.n < nx:=X e (Rt R);have D:=hs.real (i:=i) (by rw [hi];simp);have L:=hs.real (i:=j) (by rw [U];simp);have Z:j≠i:=λe=>by rw [e,hi] at U;cases U
 have K:∀n,Id.g i n≠j:=λn=>aL L;obtain⟨v',s1,s2,_⟩:=hs.ah j _ U;rw [hv] at s1;cases s1;have F:=M.get R;have hcol:=F.2.1;have hbnd:(k+1) * sz<=cap * sz:=Sc _ (by omega);have e2:(k+1) * sz=k * sz+sz:=Sn _ _;have I:off+k * sz+az+ [G].length<=arr.toList.length:=by simp;omega
 let ρ':Id->Option Value:=aA ρ (.g i nx) (some G);let O':Id->Option Nat:=λx=>if x= .g i nx then O j else if x=j then none else if x= .g i e.n then none else O x;have C:∀x,x≠ .g i nx->x≠j->x≠ .g i e.n->O' x=O x:=λx h1 E N=>by simp only [O',if_neg h1,if_neg E,if_neg N]
 have hOn:O' (.g i nx)=O j:=by simp only [O',if_true]
 have hOj:O' j=none:=by simp only [O',if_neg (K nx).symm,if_true]
 have hOe:O' (.g i e.n)=none:=by
  have h1:Id.g i e.n≠ .g i nx:=by intro h;cases h;omega
  simp only [O',if_neg h1,if_neg (K e.n),if_true]
 have H:∀x d,O' x=some d->(x= .g i nx/\O j=some d)\/(x≠ .g i nx/\x≠j/\x≠ .g i e.n/\O x=some d):=by
  intro x d l;simp only [O'] at l;split at l
  .exact .inl ⟨by assumption,l⟩
  .split at l
   .cases l
   .split at l
    .cases l
    .exact .inr ⟨by assumption,by assumption,by assumption,l⟩
 have le:Le w ρ O (w.setRow ah cs) ρ' O':=by
  refine⟨rfl,rfl,rfl,by rw [pY];exact RI _,λx u l=> ?_,λd _ hn=>setRow_other w ah d _ λe=>hn i (e▸hO),λx d l=> ?_⟩
  .by_cases e:x= .g i nx
   .subst e;rw [n3 nx (RI _)] at l;cases l
   .simp only [ρ'];rw [aq _ _ e];exact l
  .rcases H x d l with⟨_,h⟩ | ⟨_,_,_,h⟩
   .exact .inl ⟨j,h⟩
   .exact .inl ⟨x,h⟩
 have r:∀x d,x≠i->O x=some d->(w.setRow ah cs).heap[d]? =w.heap[d]?:=λx d l o=>setRow_other w ah d _ λe=>l (hs.inj x i ah (e▸o) hO);refine⟨ρ',O',le,hs.oh le (λx y l=> ?_) (λx W l=> ?_) (λx n=> ?_) (λx n l=> ?_) (λx n u Q=> ?_) ?_ (λx d l=> ?_)⟩
 .by_cases q:x=i
  .subst q;rw [aC] at l;cases l;right;have S:(es.set k ⟨nx,e.cs,some (bb,xs)⟩).length=es.length:=by simp
   refine⟨a,cap, ?_,by rw [S];exact r2,r3,⟨?_,λf B=> ?_,λn hn=> ?_,λn d o=> ?_⟩, .inr ⟨ah,off,cs,t,ha, ?_,setRow_heap w ah arr _ t (0,0) hb, ?_, ?_⟩⟩
   .rw [S];simp only [ρ'];rw [aq _ _ (aL D).symm];exact hρ
   .rw [Uk];refine GU n1 ?_;intro hm;obtain⟨f,B,e⟩:=RU.1 hm;simp only at e;have:=X f B;omega
   .rcases RV B with B | rfl
    .have:=X f B;omega
    .simp
   .have h1:Id.g x n≠ .g x nx:=by intro h;cases h;omega
    simp only [ρ'];rw [aq _ _ h1];exact n3 n (by omega)
   .rcases H _ d o with⟨h,_⟩ | ⟨h1,_,N,h4⟩
    .cases h;exact⟨_,List.mem_set hlt _,rfl⟩
    .obtain⟨f,B,J⟩:=n4 n d h4;obtain⟨m,hm⟩:=UC.1 B;have hmk:m≠k:=λe'=>by rw [e',R] at hm;cases hm;rw [J] at N;exact N rfl
     refine⟨f,UC.2 ⟨m, ?_⟩,J⟩;rw [SC,if_neg (Vp hmk)];exact hm
   .rw [C x (aL D).symm (Vp Z) (aL D).symm];exact hO
   .rw [Y,SY,pW _ _ _ I];simpa using hfit
   .have v:∀p,(w.setRow ah cs).cell? ⟨ah,p,none⟩=if off+k * sz+az<=p/\p < off+k * sz+az+1 then some G else w.cell? ⟨ah,p,none⟩:=by
     intro p;rw [sX hb,Y,T8,rO _ _ _ I,ke hb];by_cases V:off+k * sz+az<=p/\p < off+k * sz+az+1
     .rw [if_pos (by simpa using V),if_pos V,show p - (off+k * sz+az)=0 by omega];rfl
     .rw [if_neg (by simpa using V),if_neg V];simp
    refine b9.set (λd o=>le.A d o) hlt (λp p1 p2 p3=>by rw [v,if_neg (by omega)]) (λm f hm B=> ?_) ?_ M
    .have J:f.n≠e.n:=λe'=>hm (tR n1 B R e');have hfx:f.n≠nx:=by have:=X f (Rt B);omega
     have h1:Id.g x f.n≠ .g x nx:=by intro h;simp only [Id.g.injEq] at h;exact hfx h.2
     have E:Id.g x f.n≠ .g x e.n:=by intro h;simp only [Id.g.injEq] at h;exact J h.2
     refine⟨by simp only [ρ'];exact aq _ _ h1,C _ h1 (K _) E,λd o=>r _ d (aL D) o⟩
    .refine⟨F.1,hcol,λm y hm hy=> ?_,G,by rw [v,if_pos (by omega)],by simp only [ρ'];exact aC _ _ _, ?_⟩
     .obtain⟨u,g1,g2⟩:=F.2.2.1 m y hm hy;have hml:m < sz:=by have:=(Rz.1 hy).1;rw [F.1] at this;exact this
      exact⟨u,by rw [v,if_neg (by omega)];exact g1,aw.mono (λd o=>le.A d o) y u g2⟩
     .simp only;refine cM.mono (λd o=>le.A d o) (λd o=> ?_) s2;simp only [RS,if_false] at o;rw [hOn];exact⟨o,r j d Z o⟩
  .rw [aq _ _ q] at l;by_cases e3:x=j
   .subst e3;rw [aC] at l;cases l;exact .inr ⟨⟨G,by simp only [ρ'];rw [aq _ _ (K nx).symm];exact hv,jM hs hv⟩,hOj⟩
   .rw [aq _ _ e3] at l;have hrx:=hs.real (i:=x) (by rw [l];simp);refine .inl ⟨l,C x (aL hrx).symm e3 (aL hrx).symm,λd o=>r x d q o,λn=> ?_⟩;have h1:∀m,Id.g x n≠ .g i m:=by intro m h;cases h;exact q rfl
    exact⟨by simp only [ρ'];exact aq _ _ (h1 _),C _ (h1 _) (aL L) (h1 _),λd o=>r _ d (aL D) o⟩
 .by_cases q:x=i
  .subst q;rw [aC] at l;cases l
  .rw [aq _ _ q] at l;by_cases e3:x=j
   .subst e3;rw [aC] at l;cases l
   .rw [aq _ _ e3] at l;have:=hs.cr x W l;refine⟨?_, ?_⟩
    .simp only [ρ'];rw [aq _ _ (aL W).symm];exact this.1
    .rw [C x (aL W).symm e3 (aL W).symm];exact this.2
 .rw [aq _ _ (aL D),aq _ _ (aL L)];exact hs.dF x n
 .by_cases q:x=i
  .subst q;rw [aC] at l;cases l
  .rw [aq _ _ q] at l;by_cases e3:x=j
   .subst e3;rw [aC] at l;cases l
   .rw [aq _ _ e3] at l;have:=hs.fj x n l;have h1:∀m,Id.g x n≠ .g i m:=by intro m h;cases h;exact q rfl
    refine⟨?_, ?_⟩
    .simp only [ρ'];rw [aq _ _ (h1 _)];exact this.1
    .rw [C _ (h1 _) (aL L) (h1 _)];exact this.2
 .by_cases q:Id.g x n= .g i nx
  .rw [q] at Q;simp only [ρ',aC,Rp] at Q;subst Q;exact jM hs hv
  .simp only [ρ'] at Q;rw [aq _ _ q] at Q;exact hs.gone x n u Q
 .refine MN hs (λx=>if x= .g i nx then some j else if x=j then none else some x) (λx d l=> ?_) (λx y z l hy=> ?_)
  .rcases H x d l with⟨h1,E⟩ | ⟨h1,E,_,N⟩
   .exact⟨j,by rw [if_pos h1],E⟩
   .exact⟨x,by rw [if_neg h1,if_neg E],N⟩
  .split at l <;> split at hy
   .rename_i h1 E;rw [h1,E]
   .split at hy
    .cases hy
    .simp only [Rp] at l hy;subst l;rename_i h;exact(h hy).elim
   .split at l
    .cases l
    .simp only [Rp] at l hy;subst hy;rename_i h;exact(h l).elim
   .split at l
    .cases l
    .split at hy
     .cases hy
     .simp only [Rp] at l hy;rw [l,hy]
 .rw [pY];rcases H x d l with⟨_,h⟩ | ⟨_,_,_,h⟩
  .exact hs.lt _ d h
  .exact hs.lt _ d h
theorem HS.Rh{i:Id}{n r:Nat}{b:Bool}{sz az rsz nx:Nat}{es:List Row}{p:Bool×List (List T)}{F:List (List T)}{v:Value}{cs:Array Value}(hs:HS c w h ρ O)(hi:h i=some (.rows b sz az rsz nx es))(hf:br n es=some p)(M:O (.g i n)=some r)
  (hv:ρ (.g i n)=some v) (R:cM (w.setRow r cs) (AA c (w.setRow r cs) O) rsz p.1 F v (λd=>O (.g i n)=some d)):
  HS c (w.setRow r cs) (aA h i (some (.rows b sz az rsz nx (dr n (some (p.1,F)) es)))) ρ O:=by
 have le:Le w ρ O (w.setRow r cs) ρ O:=ye M _;have H:=hs.real (i:=i) (by rw [hi];simp);have o:∀x d,x≠ .g i n->O x=some d->(w.setRow r cs).heap[d]? =w.heap[d]?:=λx d j l=>setRow_other w r d _ λe=>j (hs.inj x _ r (e▸l) M);obtain⟨k,e,C,G,heo,K⟩:=wW hf;refine hs.oh le (λx y j=> ?_) (λx hr j=> ?_) (λx m=> ?_) (λx m j=> ?_) hs.gone hs.inj (λx d l=>by rw [pY];exact hs.lt x d l)
 .by_cases z:x=i
  .subst z;rw [aC] at j;cases j;right;obtain⟨a,cap,r1,r2,r3,⟨S,U,n3,n4⟩,L⟩:=hs.ah x _ hi;rw [K];have D:(es.set k {e with own:=some (p.1,F)}).length=es.length:=by simp
   have E:(es.set k {e with own:=some (p.1,F)}).map (·.n)=es.map (·.n):=by
    rw [Uk];refine TV λm=> ?_;rw [SC];split
    .rename_i h;subst h;have:=(Rz.1 C).1;rw [if_pos (by simpa using this)];simp [C]
    .rfl
   refine⟨a,cap,by rw [D];exact r1,by rw [D];exact r2,r3,⟨by rw [E];exact S,λf q=> ?_,n3,λm d l=> ?_⟩, ?_⟩
   .rcases RV q with q | rfl
    .exact U f q
    .exact U e (Rt C)
   .obtain⟨f,q,N⟩:=n4 m d l;have:m∈(es.set k {e with own:=some (p.1,F)}).map (·.n):=by rw [E];exact RU.2 ⟨f,q,N⟩
    obtain⟨f',h1,h2⟩:=RU.1 this;exact⟨f',h1,h2⟩
   .rcases L with L | ⟨ah,off,arr,t,q1,V,q3,q4,W⟩
    .exact .inl L
    .have B:(w.setRow r cs).heap[ah]? =w.heap[ah]?:=o x ah (aL H).symm V;refine .inr ⟨ah,off,arr,t,q1,V,by rw [B];exact q3,q4, ?_⟩;have J:=W.get C;refine b9.set (λd l=>le.A d l) (Rz.1 C).1 (λ_ _ _ _=>mK B) (λm f hm q=>⟨rfl,rfl,λd l=>o _ d (λh=> ?_) l⟩) ?_ W
     .simp only [Id.g.injEq] at h;exact hm (tR S q C (by rw [h.2,G]))
     .obtain⟨Y,Z,a3,u,a4,I,a7⟩:=J;refine⟨Y,Z,λm y hm hy=> ?_,u,by rw [mK B];exact a4,I, ?_⟩
      .obtain⟨X,g1,g2⟩:=a3 m y hm hy;exact⟨X,by rw [mK B];exact g1,aw.mono (λd l=>le.A d l) y X g2⟩
      .simp only;rw [G] at I⊢;rw [I] at hv;cases hv;exact R
  .rw [aq _ _ z] at j;have Q:=hs.real (i:=x) (by rw [j];simp);refine .inl ⟨j,rfl,λd l=>o x d (aL Q).symm l,λm=>⟨rfl,rfl,λd l=>o _ d (λh=> ?_) l⟩⟩;simp only [Id.g.injEq] at h;exact z h.1
 .by_cases z:x=i
  .subst z;rw [aC] at j;cases j
  .rw [aq _ _ z] at j;exact hs.cr x hr j
 .rw [aq _ _ (aL H)];exact hs.dF x m
 .by_cases z:x=i
  .subst z;rw [aC] at j;cases j
  .rw [aq _ _ z] at j;exact hs.fj x m j
theorem PU{R:Type}{t:TypeId}{a v:AV}{va y:Value}{K:aG->Option R}{r:R}(hs:HS c w s.h ρ O)(J:ak w (AA c w O) ρ a va)(hx:ak w (AA c w O) ρ v y)(f:iW P s t a v K=some r):
  ∃us w' ρ' O',K us=some r/\(Instr.storeAt t va y).run P w= .ok () w'/\Le w ρ O w' ρ' O'/\HS c w' (aJ s.h us) ρ' O':=by
 unfold iW at f;cases Z:bN P t
 .simp [Z] at f
 simp only [Z,cond_true] at f;split at f
 .rename_i i off;split at f
  .rename_i cs hi;split at f
   .rename_i q;obtain⟨Q,I,c3⟩:=q;obtain⟨b,arr,t',h1,h2,h3,h4,h5,h6⟩:=zz hs hi;simp only [ak] at J;obtain⟨H,x,rfl⟩:=J;rw [h1] at x;simp only [Rp,Tq,Ss] at x;obtain⟨rfl,_⟩:=x;obtain⟨S,X⟩:=wc hs hx I;have gl:=S.length;have hl:=h4.length;have D:off+y.cells.toList.length<=arr.size:=by rw [gl];simp only [RR] at hl;omega
    have B:=x8 (P:=P) Z h3 (by rw [<-RR,gl,Q]) D (λu hu=>(X u hu).1);have le:Le w ρ O (w.setRow b (bQ off y.cells.toList arr.toList).toArray) ρ O:=ye h2 _;refine⟨_,_,ρ,O,f,by simpa [Instr.storeAt,Instr.sureAddr] using B,le, ?_⟩;rw [dH];refine hs.write h2 le (λk f=>setRow_other w b k _ f) _ ?_ (by rw [hi];simp);refine⟨b,_,t',h1,h2,setRow_heap w b arr _ t' (0,0) h3, ?_, ?_⟩
    .have m:∀(as:List AV) (vs:List Value),ay w (AA c w O) ρ as vs->ay _ _ ρ as vs:=λas vs hr=>ay.mono (λb hb=>le.A b hb) le.eB as vs hr;exact ay.bQ (m _ _ h4) (m _ _ S) off
    .intro u hu;simp only [bQ,RM] at hu;rcases hu with(hu | hu) | hu
     .exact h5 u (Tl hu)
     .exact X u hu
     .exact h5 u (Tm hu)
   .simp at f
  .simp at f
 .rename_i i sz k off;split at f
  .rename_i g bb xs hi;obtain⟨l,hsn,f⟩:=Rq.1 f;split at f
   .rename_i q;obtain⟨rfl,Q,I⟩:=q;replace f:=aK f (.inl rfl);obtain⟨ys,hy,f⟩:=f;have E:∀p∈gz s.h v,p.1≠i:=by
     intro p Y e;have:=FE Y;rw [e] at this;simp only [List.contains_eq_mem,decide_eq_false_iff_not] at I;exact I this
    obtain⟨G,cC,N,o1,o2,o3⟩:=HS.rq hs (AD (h:=s.h) v);obtain⟨S,X⟩:=B8 hs hx hsn cC o1 o2;have M:aJ s.h (gz s.h v) i=some (.sl false g bb xs):=by rw [dI E];exact hi
    obtain⟨vv,q0,a',cap',q1,q2,q3,q4,q5⟩:=nD N M;simp only [ak] at J;obtain⟨b,o,L,cap,x,rfl⟩:=J;rw [q0] at x;simp only [Rp] at x;subst x;simp only [SD] at q1;obtain⟨rfl,rfl,rfl⟩:=q1;unfold bI at hy;cases W:xs[k]? with
    | none=>simp [W] at hy
    | some cs=>
     simp only [W] at hy;split at hy
     .rename_i hfit0;simp only [Rp] at hy;subst hy;have hlt:k < xs.length:=(Rz.1 W).1;rcases q5 with q5 | ⟨ah,off',arr,t',q6,q7,q8,q9,q10⟩
      .omega
      .simp only [Rp,Ss] at q6;obtain⟨rfl,rfl,_⟩:=q6;simp only [RS,if_false] at q7;obtain⟨lcs,hcs⟩:=q10.get W;have gl:=S.length;have hbnd:(k+1) * g<=cap * g:=Sc _ (by omega);have e2:(k+1) * g=k * g+g:=Sn _ _;have D:o+k * g+off+y.cells.toList.length<=arr.size:=by omega
       have B:=x8 (P:=P) Z q8 (by rw [<-RR,gl,Q]) D (λu hu=>(X u hu).1);have F:Le w ρ G (w.setRow b (bQ (o+k * g+off) y.cells.toList arr.toList).toArray) ρ G:=ye q7 _;refine⟨_,_,ρ,G,f,by simpa [Instr.storeAt,Instr.sureAddr] using B,cC.trans F, ?_⟩;rw [cX,uI E];refine N.write q7 F (λk f=>setRow_other w b k _ f) _ ?_ (by rw [M];simp);refine⟨_,q0, ?_,by simp⟩;have hl2:(xs.set k (bQ off l cs)).length=xs.length:=by simp
       refine⟨some ⟨b,o,none⟩,cap,by rw [hl2],by rw [hl2];exact q2,q3,q4, .inr ⟨b,o,_,t',rfl,by simpa using q7,setRow_heap w b arr _ t' (0,0) q8, ?_, ?_⟩⟩
       .have:=pW (o+k * g+off) y.cells.toList arr.toList (by simpa using D);simp only [SY];rw [this];simpa using q9
       .have z:∀p,(w.setRow b (bQ (o+k * g+off) y.cells.toList arr.toList).toArray).cell? ⟨b,p,none⟩=if o+k * g+off<=p/\p < o+k * g+off+y.cells.toList.length then y.cells.toList[p - (o+k * g+off)]? else w.cell? ⟨b,p,none⟩:=by
         intro p;rw [sX q8,T8,rO _ _ _ (by simpa using D),ke q8];simp
        have V:∀H,AA c w G H->AA c (w.setRow b (bQ (o+k * g+off) y.cells.toList arr.toList).toArray) G H/\(w.setRow b (bQ (o+k * g+off) y.cells.toList arr.toList).toArray).heap[H]? =w.heap[H]?:=λH hb'=>F.A H hb';have lrepl:(bQ off l cs).length=g:=by rw [pW off l cs hfit0,lcs]
        refine aU.set V q10 hlt lrepl ?_ ?_
        .refine aS.bQ (aS.cells V (λj T=> ?_) (hcs.take off)) ?_ ?_ (by omega)
         .have lt:(cs.take off).length=off:=by rw [So];omega
          rw [lt] at T;rw [z,if_neg (by omega)]
         .refine aS.kB (aN.mono V _ _ S) (λj u T=> ?_);have hj':j < y.cells.toList.length:=(Rz.1 T).1;rw [z,if_pos (by omega)];rw [show o+k * g+off+j - (o+k * g+off)=j by omega];exact T
         .have:=hcs.drop (off+l.length);rw [show o+k * g+off+l.length=o+k * g+ (off+l.length) by omega];refine aS.cells V (λj T=> ?_) this;rw [z,if_neg (by omega)]
        .intro p h1 h2 h3;rw [z,if_neg (by omega)]
     .simp at hy
   .simp at f
  .rename_i bb g az rsz nx es hi;split at f
   .rename_i j;split at f
    .rename_i rsz' H xs T;split at f
     .rename_i q;obtain⟨rfl,rfl,rfl,Q,I⟩:=q;replace f:=aK f (.inl rfl);obtain⟨e,he,f⟩:=f;obtain⟨a,cap,r1,r2,r3,r4,r5⟩:=hs.ah i _ hi;simp only [ak] at J hx;obtain⟨b,o,L,cap',x,rfl⟩:=J;have e1':=x;rw [r1] at x;simp only [Rp,SD] at x;obtain⟨rfl,rfl,rfl⟩:=x;have hlt:k < es.length:=(Rz.1 he).1;rcases r5 with r5 | ⟨ah,off',arr,t',q1,q2,q3,q4,q5⟩
      .omega
      .simp only [Rp,Ss] at q1;obtain⟨rfl,rfl,_⟩:=q1;have U:=jM hs hx;have hcol:=(q5.get he).2.1;have hbnd:(k+1) * g<=cap * g:=Sc _ (by omega);have e2:(k+1) * g=k * g+g:=Sn _ _;have C:y.cells.toList= [y]:=by rw [U.2]
       have B:=x8 (P:=P) (w:=w) (v:=y) Z q3 (by rw [U.2,Q];rfl) (off:=o+k * g+off) (by rw [C];simp;omega) (λu hu=>by rw [C,RF] at hu;subst hu;exact U.1);rw [C] at B;obtain⟨ρ',O',le,hs'⟩:=hs.Oo hi T he hx r1 rfl q2 q3 q4 rfl;refine⟨_,_,ρ',O',f,by simpa [Instr.storeAt,Instr.sureAddr] using B,le, ?_⟩;rw [cX,dH];exact hs'
     .simp at f
    .simp at f
   .simp at f
  .simp at f
 .rename_i i sz n k off;split at f
  .rename_i b g az rsz nx es hi;replace f:=aK f (.inl rfl);obtain⟨p,Y,f⟩:=f;replace f:=Rq.1 f;obtain⟨l,hsn,f⟩:=f;split at f
   .rename_i q;obtain⟨rfl,Q,I⟩:=q;replace f:=aK f (.inl rfl);obtain⟨ys,hy,f⟩:=f;have E:∀p∈gz s.h v,p.1≠i:=by
     intro p Y e;have:=FE Y;rw [e] at this;simp only [List.contains_eq_mem,decide_eq_false_iff_not] at I;exact I this
    obtain⟨G,cC,N,o1,o2,o3⟩:=HS.rq hs (AD (h:=s.h) v);obtain⟨S,X⟩:=B8 hs hx hsn cC o1 o2;have M:aJ s.h (gz s.h v) i=some (.rows b g az rsz nx es):=by rw [dI E];exact hi
    obtain⟨vv,q0,q1⟩:=xZ (s:=⟨s.t,aJ s.h (gz s.h v)⟩) N M Y;simp only [ak] at J;obtain⟨bk,o,L,cap,x,rfl⟩:=J;rw [q0] at x;simp only [Rp] at x;subst x;obtain⟨cs,hOb,B,hsl⟩:=q1.put (P:=P) hy Z Q S X;have F:Le w ρ G (w.setRow bk cs) ρ G:=ye hOb _;refine⟨_,_,ρ,G,f,by simpa [Instr.storeAt,Instr.sureAddr] using B,cC.trans F, ?_⟩;rw [cX,uI E];exact N.Rh M Y hOb q0 (hsl _ _ (λd hd=>F.A d hd) hOb)
   .simp at f
  .simp at f
 .simp at f
theorem HX(t:TypeId)(cells:Array Value):(newRow t cells).run P w= .ok ⟨w.heap.size,0,none⟩ (w.alloc (.cells cells t)):=by simp [newRow]
theorem ko(o:Obj):(w.alloc o).heap[w.heap.size]? =some o:=by show(w.heap.push o)[w.heap.size]? =some o;simp
theorem HS.GN{i:Id}(hs:HS c w h ρ O)(hi:h i=none){cs:List AV}{vs:List Value}(t:TypeId)(hv:ay w (AA c w O) ρ cs vs)(h1:∀u∈vs,u.oneCell'=true/\u.cells= #[u])(hrl:i.real=true:=by rfl):
  Le w ρ O (w.alloc (.cells vs.toArray t)) (aA ρ i (some (.pointer (some ⟨w.heap.size,0,none⟩)))) (aA O i (some w.heap.size))/\
  HS c (w.alloc (.cells vs.toArray t)) (aA h i (some (.box cs))) (aA ρ i (some (.pointer (some ⟨w.heap.size,0,none⟩)))) (aA O i (some w.heap.size)):=by
 have le:=Le.alloc hs hrl hi (.cells vs.toArray t) (.pointer (some ⟨w.heap.size,0,none⟩)) (some w.heap.size) (.inr rfl);refine⟨le,hs.alloc hrl hi _ _ _ (.inr rfl) _ ⟨w.heap.size,vs.toArray,t,by simp,by simp,ko _, ?_,h1⟩⟩;exact ay.mono (λb hb=>le.A b hb) le.eB _ _ hv
theorem HS.NR{i:Id}(hs:HS c w h ρ O)(hi:h i=none){cs:List AV}{arr:Array Value}(t:TypeId)(hv:ay w (AA c w O) ρ cs arr.toList)(h1:∀u∈arr.toList,u.oneCell'=true/\u.cells= #[u])(hrl:i.real=true:=by rfl):
  Le w ρ O (w.alloc (.cells arr t)) (aA ρ i (some (.slice (some ⟨w.heap.size,0,none⟩) 1 1))) (aA O i (some w.heap.size))/\
  HS c (w.alloc (.cells arr t)) (aA h i (some (.arr cs))) (aA ρ i (some (.slice (some ⟨w.heap.size,0,none⟩) 1 1))) (aA O i (some w.heap.size)):=by
 have le:=Le.alloc hs hrl hi (.cells arr t) (.slice (some ⟨w.heap.size,0,none⟩) 1 1) (some w.heap.size) (.inr rfl);refine⟨le,hs.alloc hrl hi _ _ _ (.inr rfl) _ ⟨w.heap.size,arr,t,by simp,by simp,ko _, ?_,h1⟩⟩;exact ay.mono (λb hb=>le.A b hb) le.eB _ _ hv
theorem Hc{u:Value}{x:T}(e:oG u=some x):aw w A x u:=by
 cases u <;> simp only [oG,Rp,reduceCtorEq] at e
 case slice a l b=>split at e <;> simp_all;subst e;simp [aw]
 case pointer a=>split at e <;> simp_all;subst e;simp [aw]
 case map a=>split at e <;> simp_all;subst e;simp [aw]
 all_goals (subst e;simp [aw])
theorem oH:∀{us:List Value} {l:List T},lB us=some l->aN w A l us
 | [],l,e=>by simp only [lB,Rp] at e;subst e;rfl
 | u::us,l,e=>by simp only [lB] at e;obtain⟨x,h1,e⟩:=Rq.1 e;obtain⟨b,a,e⟩:=Rq.1 e;simp only [Rp] at e;subst e;exact⟨u,us,rfl,Hc h1,oH a⟩
theorem nM{t:TypeId}{l:List T}(e:jq P t=some l):∃i z,P.info? t=some i/\i.zero=some z/\lB z.cells.toList=some l:=by
 unfold jq at e;split at e
 .rename_i i hi;split at e
  .rename_i z hz;exact⟨i,z,hi,hz,e⟩
  .simp at e
 .simp at e
theorem Mn(off:Nat)(v cells:Array Value)(d:off+v.size<=cells.size):(v.zipIdx.foldl (λcs (x:Value×Nat)=>cs.setIfInBounds (off+x.2) x.1) cells).toList=bQ off v.toList cells.toList:=by
 obtain⟨f,b⟩:=Go.Great.foldl_set off v.toList 0 cells;have e:v.zipIdx.foldl (λcs (x:Value×Nat)=>cs.setIfInBounds (off+x.2) x.1) cells= (v.toList.zipIdx 0).foldl (λcs (x:Value×Nat)=>cs.setIfInBounds (off+x.2) x.1) cells:=by rw [<-Array.foldl_toList,Array.toList_zipIdx]
 rw [e];apply TV;intro p;rw [Sl,b p,rO off v.toList cells.toList (by simpa using d)];simp only [Uj,RR,Sl];by_cases a:off<=p/\p < off+v.size
 .rw [if_pos ⟨a.1,a.2,by omega⟩,if_pos a]
 .rw [if_neg (by omega),if_neg a]
inductive sL (w:World) (A:Nat->Prop) (ρ:Id->Option Value) (place:Nat->Option (Nat×Nat)):List (Nat×List AV)->List (Nat×Value)->Prop
 | nil:sL w A ρ place [] []
 | cons {off:Nat} {l:List AV} {f:Nat} {v:Value} {ls:List (Nat×List AV)} {vs:List (Nat×Value)} (hp:place f=some (off,l.length)) (hr:ay w A ρ l v.cells.toList) (h1:∀u∈v.cells.toList,u.oneCell'=true/\u.cells= #[u])
   (rest:sL w A ρ place ls vs):sL w A ρ place ((off,l)::ls) ((f,v)::vs)
theorem Fo{d:Nat->Option (Nat×Nat)}:∀{j:List (Nat×List AV)} {vs:List (Nat×Value)} {i b:List AV} {cells:Array Value},sL w A ρ d j vs->tF j i=some b->ay w A ρ i cells.toList->(∀u∈cells.toList,u.oneCell'=true/\u.cells= #[u])->
  ∃r,Instr.fill d cells vs=some r/\ay w A ρ b r.toList/\∀u∈r.toList,u.oneCell'=true/\u.cells= #[u]
 | [],_,i,b,cells, .nil,a,hz,h1=>by simp only [tF,Rp] at a;subst a;exact⟨cells,rfl,hz,h1⟩
 | (off,l)::j,(f,v)::vs,i,b,cells, .cons y o n m,a,hz,h1=>by
  simp only [tF] at a;split at a
  .rename_i t;have k:=o.length;have z:=hz.length;simp only [RR] at k z;have g:off+v.cells.size<=cells.size:=by omega
   have e:=Mn off v.cells cells g;obtain⟨r,p,q,e3⟩:=Fo (cells:=v.cells.zipIdx.foldl (λcs (x:Value×Nat)=>cs.setIfInBounds (off+x.2) x.1) cells) m a (by
    rw [e];unfold bQ;rw [show v.cells.toList.length=l.length by simpa using k];exact((hz.take off).append o).append (hz.drop _)) (by
    intro u hu;rw [e] at hu;simp only [bQ,RM] at hu;rcases hu with(hu | hu) | hu
    .exact h1 u (Tl hu)
    .exact n u hu
    .exact h1 u (Tm hu))
   refine⟨r, ?_,q,e3⟩;unfold Instr.fill;simp only [y];rw [if_neg (by simp [k];omega)];exact p
  .simp at a
theorem Hq{t:TypeId}{f:Nat}{p:Nat×TypeId}(e:tZ P t f=some p)(j:pT P t=true):
  bN P p.2=true/\((∃a,P.underlying t=some (.struct a)/\(a.toList.map λx=>(x.offset,P.cellsOf x.type))[f]? =some (p.1,P.cellsOf p.2))\/
   ∃n e,P.underlying t=some (.array n e)/\p= (f * P.cellsOf e,e)):=by
 unfold tZ at e;split at e
 .rename_i q d;simp only [Rp] at e;subst e;obtain⟨a,x,h1,b,g,i⟩:=At d;refine⟨i, .inl ⟨a,h1, ?_⟩⟩;rw [Sb,Sl,b];simp [g]
 .split at e
  .rename_i n u d;simp only [Rp] at e;subst e;obtain⟨h1,b⟩:=Dj d;exact⟨b, .inr ⟨n,u,h1,rfl⟩⟩
  .simp at e
theorem Hs{a:Act}{g:Option Gs}{t:TypeId}(hs:HS c w s.h ρ O)(n:SS w (AA c w O) ρ s.t a.tmps)(m:jW a.tmps g)(l:pT P t=true)(b:Nat->Option (Nat×Nat))
  (d:∀f p,tZ P t f=some p->b f=some (p.1,P.cellsOf p.2)):
  ∀{k:List (Nat×Operand)} {j:List (Nat×List AV)},oM P t (s.get g) k=some j->sL w (AA c w O) ρ b j (k.map λx=>(x.1,a.eval x.2))
 | [],j,e=>by simp only [oM,Rp] at e;subst e;exact .nil
 | (f,o)::k,j,e=>by
  simp only [oM] at e;obtain⟨p,v,e⟩:=Rq.1 e;split at e
  .rename_i i;obtain⟨q,y,e⟩:=Rq.1 e;simp only [Rp] at e;subst e;have hv:=SS.get (h:=s.h) n m o;obtain⟨r,u⟩:=wc hs hv i.2;exact .cons (by rw [d f p v,show(St.get ⟨s.t,s.h⟩ g o)=s.get g o from rfl,i.1]) r u (Hs hs n m l b d y)
  .simp at e
theorem JU{a:Act}{g:Option Gs}{t:TypeId}{m:Array (Nat×Operand)}{av:AV}(hs:HS c w s.h ρ O)(V:SS w (AA c w O) ρ s.t a.tmps)(U:jW a.tmps g)(e:vX P t (s.get g) m.toList=some av):
  ∃v,(Instr.build t (m.map λ(i,x)=>(i,a.eval x))).run P w= .ok v w/\ak w (AA c w O) ρ av v:=by
 unfold vX at e;split at e
 .rename_i b;obtain⟨z,hz,e⟩:=Rq.1 e;obtain⟨l,T,e⟩:=Rq.1 e;obtain⟨cs,L,e⟩:=Rq.1 e;simp only [Rp] at e;subst e;obtain⟨i,zv,hi,E,N⟩:=nM hz;have D:aN w (AA c w O) z zv.cells.toList:=oH N;have S:(m.map λ(i,x)=>(i,a.eval x)).toList=m.toList.map λx=>(x.1,a.eval x.2):=by simp
  have key:∀j:Nat->Option (Nat×Nat),(∀f p,tZ P t f=some p->j f=some (p.1,P.cellsOf p.2))->∃r,Instr.fill j zv.cells (m.map λ(i,x)=>(i,a.eval x)).toList=some r/\ay w (AA c w O) ρ cs r.toList/\∀u∈r.toList,u.oneCell'=true/\u.cells= #[u]:=by intro j q;rw [S];exact Fo (Hs hs V U b j q T) L (ay.lD D) D.one
  have C:∀r:Array Value,P.built t (m.map λ(i,x)=>(i,a.eval x)).toList=some r->ay w (AA c w O) ρ cs r.toList->(∀u∈r.toList,u.oneCell'=true/\u.cells= #[u])->
    ∃v,(Instr.build t (m.map λ(i,x)=>(i,a.eval x))).run P w= .ok v w/\ak w (AA c w O) ρ (.agg cs) v:=by
   intro r hb h1 H;exact⟨_,run_build w t _ r hb,by simp only [ak];exact⟨r.toList,by simp,h1,H⟩⟩
  cases k:P.underlying t with
  | none=>simp [pT,k] at b
  | some d=>
   cases d <;> simp only [pT,k,RS] at b
   case struct B=>
    have o:B.toList.mapM (λf=>(P.info? f.type).map λi=>(f.offset,i.size))=some (B.toList.map λx=>(x.offset,P.cellsOf x.type)):=by
     generalize B.toList=l at b;induction l with
     | nil=>rfl
     | cons f l W=>simp only [SZ,Rw] at b;obtain⟨d,I⟩:=Tw.1 b.1;obtain⟨i,hi,y⟩:=xn I;simp only [VW,hi,Ts,Option.bind_eq_bind,RA,W b.2,Option.pure_def,RX,y]
    obtain⟨r,F,G,e3⟩:=key ((B.toList.map λx=>(x.offset,P.cellsOf x.type)).toArray[·]?) (λf p J=>by
     obtain⟨_,h | ⟨n,e,h,_⟩⟩:=Hq J (by simp [pT,k,b])
     .obtain⟨K,h1,H⟩:=h;rw [k] at h1;simp only [Rp,TypeDesc.struct.injEq] at h1;subst h1;simpa using H
     .rw [k] at h;simp at h)
    refine C r ?_ G e3;simp only [Program.built,hi,k,E,o];exact F
   case array n e=>
    obtain⟨d,I⟩:=Tw.1 b;obtain⟨R,M,y⟩:=xn I;obtain⟨r,F,G,e3⟩:=key (λi=>some (i * R.size,R.size)) (λf p J=>by
     obtain⟨_,⟨K,h1,_⟩ | ⟨Y,X,h,Q⟩⟩:=Hq J (by simp [pT,k,b])
     .rw [k] at h1;simp at h1
     .rw [k] at h;simp only [Rp,TypeDesc.array.injEq] at h;obtain⟨rfl,rfl⟩:=h;subst Q;simp [y])
    refine C r ?_ G e3;simp only [Program.built,hi,k,E,M];exact F
 .simp at e
end
open Go Go.IntKind
section
variable {P:Program} {w w':World} {A A':Nat->Prop} {c:Ctx} {ρ:Id->Option Value} {O:Id->Option Nat} {s:St} {cc:Option Bool} {h:Id->Option ab}
def ct(w:World)(A:Nat->Prop)(sz:Nat):List (List T)->List (List Value)->Prop
 | [],vss=>vss= []
 | cs::xs,vss=>∃vs r,vss=vs::r/\cs.length=sz/\aN w A cs vs/\ct w A sz xs r
theorem ct.mono{sz:Nat}(a:∀b,A b->A' b/\w'.heap[b]? =w.heap[b]?):∀{xs:List (List T)} {vss:List (List Value)},ct w A sz xs vss->ct w' A' sz xs vss
 | [],_,h=>h
 | cs::xs,vss,⟨vs,r,e,h1,d,f⟩=>⟨vs,r,e,h1,aN.mono a cs vs d,ct.mono a f⟩
theorem ct.length{sz:Nat}:∀{xs:List (List T)} {vss:List (List Value)},ct w A sz xs vss->vss.length=xs.length/\vss.flatten.length=xs.length * sz
 | [],vss,h=>by simp only [ct] at h;subst h;simp
 | cs::xs,vss,⟨vs,r,e,h1,d,f⟩=>by subst e;obtain⟨a,b⟩:=ct.length f;have:=d.length;refine⟨by simp [a], ?_⟩;simp only [TB,Sw,b,this,h1,RP,Sn];omega
theorem ct.one{sz:Nat}:∀{xs:List (List T)} {vss:List (List Value)},ct w A sz xs vss->∀u∈vss.flatten,u.oneCell'=true/\u.cells= #[u]
 | [],vss,h,u,hu=>by simp only [ct] at h;subst h;simp at hu
 | cs::xs,vss,⟨vs,r,e,h1,a,b⟩,u,hu=>by
  subst e;simp only [TB,RM] at hu;rcases hu with hu | hu
  .exact a.one u hu
  .exact ct.one b u hu
theorem ct.append{sz:Nat}:∀{xs d:List (List T)} {vss a:List (List Value)},ct w A sz xs vss->ct w A sz d a->ct w A sz (xs++d) (vss++a)
 | [],_,vss,_,h,b=>by simp only [ct] at h;subst h;simpa using b
 | cs::xs,d,vss,a,⟨vs,r,e,h1,f,g⟩,b=>by subst e;exact⟨vs,r++a,rfl,h1,f,ct.append g b⟩
theorem aU.bc{ah sz:Nat}:∀{off:Nat} {xs:List (List T)},aU w A ah sz off xs->∃vss,ct w A sz xs vss/\∀p v,vss.flatten[p]? =some v->w.cell? ⟨ah,off+p,none⟩=some v
 | _,[],_=>⟨[],rfl,by simp⟩
 | off,cs::xs,h=>by
  simp only [aU] at h;obtain⟨vs,h1,d⟩:=h.2.1.bc;obtain⟨r,e,f⟩:=aU.bc h.2.2;refine⟨vs::r,⟨vs,r,rfl,h.1,h1,e⟩,λp v a=> ?_⟩;have b:=h1.length;rw [h.1] at b;rw [TB] at a;by_cases g:p < sz
  .rw [SH (by omega)] at a;exact d p v a
  .rw [Sp (by omega),b] at a;have:=f _ v a;rw [show off+sz+ (p - sz)=off+p by omega] at this;exact this
theorem aU.kB{ah sz:Nat}:∀{off:Nat} {xs:List (List T)} {vss:List (List Value)},ct w A sz xs vss->(∀p v,vss.flatten[p]? =some v->w.cell? ⟨ah,off+p,none⟩=some v)->aU w A ah sz off xs
 | _,[],_,_,_=>by simp [aU]
 | off,cs::xs,vss,⟨vs,r,e,h1,a,f⟩,hv=>by
  subst e;have d:=a.length;rw [h1] at d;simp only [aU];refine⟨h1,aS.kB a (λj v b=>hv j v ?_),aU.kB f (λp v g=> ?_)⟩
  .rw [TB,SH (Rz.1 b).1];exact b
  .have:=hv (sz+p) v (by rw [TB,Sp (by omega),d,show sz+p - sz=p by omega];exact g);rw [show off+sz+p=off+ (sz+p) by omega];exact this
theorem HS.Bh{i:Id}(hs:HS c w h ρ O)(hi:h i=none){xs:List (List T)}{vss:List (List Value)}{sz:Nat}(t:TypeId)(cells:Array Value)(cap:Nat)(f:ct w (AA c w O) sz xs vss)
  (d:∀(p:Nat) (v:Value),vss.flatten[p]? =some v->cells[p]? =some v) (a:xs.length<=cap) (g:cap * sz<=cells.size) (hrl:i.real=true:=by rfl):
  Le w ρ O (w.alloc (.cells cells t)) (aA ρ i (some (.slice (some ⟨w.heap.size,0,none⟩) xs.length cap))) (aA O i (some w.heap.size))/\
  HS c (w.alloc (.cells cells t)) (aA h i (some (.sl false sz false xs))) (aA ρ i (some (.slice (some ⟨w.heap.size,0,none⟩) xs.length cap))) (aA O i (some w.heap.size)):=by
 have le:=Le.alloc hs hrl hi (.cells cells t) (.slice (some ⟨w.heap.size,0,none⟩) xs.length cap) (some w.heap.size) (.inr rfl);refine⟨le,hs.alloc hrl hi _ _ _ (.inr rfl) _ ⟨_,by rw [aC],⟨some ⟨w.heap.size,0,none⟩,cap,rfl,a,by simp,trivial, .inr ⟨w.heap.size,0,cells,t,rfl,by simp,ko _,by omega, ?_⟩⟩,by simp⟩⟩;refine aU.kB (ct.mono (λb hb=>le.A b hb) f) (λp v e=> ?_);rw [ke (ko _),RY];exact d p v e
theorem EI{a:Act}{g:Option Gs}{e:TypeId}(hs:HS c w s.h ρ O)(D:SS w (AA c w O) ρ s.t a.tmps)(C:jW a.tmps g){O':Id->Option Nat}(le:Le w ρ O w ρ O')(m:∀i,O' i=O i\/O' i=none):
  ∀{y:List (Nat×Operand)} {n:Nat} {q:List (List T)×aG},iq P s.h e (s.get g) n y=some q->(∀p∈q.2,O' p.1=none)->
   ∃vs:List Value,(y.map λx=>(x.1,a.eval x.2))= ((vs.zipIdx n).map λx=>(x.2,x.1))/\ct w (AA c w O') (P.cellsOf e) q.1 (vs.map λv=>v.cells.toList)/\(∀v∈vs,v.cells.size=P.cellsOf e)
 | [],n,q,b,_=>by simp only [iq,Rp] at b;subst b;exact⟨[],rfl,by simp [ct],by simp⟩
 | (k,o)::y,n,q,b,r=>by
  simp only [iq] at b;obtain⟨l,G,b⟩:=Rq.1 b;split at b
  .rename_i j;obtain⟨rfl,d⟩:=j;obtain⟨I,B,b⟩:=Rq.1 b;simp only [Rp] at b;subst b;simp only [RM] at r;obtain⟨vs,E,F,e3⟩:=EI hs D C le m B (λp u=>r p (.inr u));have hv:=SS.get (h:=s.h) D C o;obtain⟨z,H⟩:=B8 hs hv G le m (λp u=>r p (.inl u));have gl:=z.length;refine⟨a.eval o::vs, ?_,⟨_,_,rfl,d,z,F⟩, ?_⟩
   .simp only [RX,List.zipIdx_cons,E]
   .intro v f;rcases RC.1 f with rfl | f
    .rw [<-RR,gl,d]
    .exact e3 v f
  .simp at b
theorem EH{e:TypeId}{ev:Operand->AV}:∀{b:List (Nat×Operand)} {n:Nat} {q:List (List T)×aG},iq P h e ev n b=some q->gp h q.2/\q.1.length=b.length
 | [],n,q,a=>by simp only [iq,Rp] at a;subst a;exact⟨(λp i=>by cases i),rfl⟩
 | (k,o)::b,n,q,a=>by
  simp only [iq] at a;obtain⟨l,j,a⟩:=Rq.1 a;split at a
  .obtain⟨m,d,a⟩:=Rq.1 a;simp only [Rp] at a;subst a;obtain⟨f,g⟩:=EH d;exact⟨(AD _).append f,by simp [g]⟩
  .simp at a
theorem BS{t e:TypeId}{n:Nat}(p:P.underlying t=some (.slice e))(k:bN P e=true)(hz:(jq P e).isSome=true)(b: 0 < P.cellsOf e)(hb:n<=1000/\P.cellsOf e<=1000)(vs:List Value)(hv:∀v∈vs,v.cells.size=P.cellsOf e)(g:vs.length=n)
  (m:Array (Nat×Value)) (a:m.toList= (vs.zipIdx 0).map λx=>(x.2,x.1)):
  (Instr.buildSlice t n m).run P w= .ok (.slice (some ⟨w.heap.size,0,none⟩) n n) (w.alloc (.cells (vs.flatMap λv=>v.cells.toList).toArray e)):=by
 obtain⟨z,hz⟩:=Tw.1 hz;obtain⟨i,zv,hi,l,_⟩:=nM hz;have q:n * P.cellsOf e<=1000 * 1000:=UD hb.1 hb.2;have h1:¬(n * P.cellsOf e > 2 ^ 24):=by
  have f:(2:Nat) ^ 24=16777216:=by decide
  rw [f];omega
 have o:=Go.Great.fill_whole b vs;unfold Instr.buildSlice;simp only [RO,run_underlying p,RB,iT k,if_neg h1,Sem.run_ite];by_cases d:n * P.cellsOf e=0
 .have j:n=0:=by rcases Nat.mul_eq_zero.1 d with e | e <;> omega
  subst j;have:vs= []:=RN.1 g;subst this;simp only [Nat.zero_mul,if_true,R0,RB];simp only [List.zipIdx_nil,SX] at a;simp [a,Instr.fill,newRow,Array.range_zero']
 .simp only [if_neg d,RO,zeroValue,typeInfo,run_program,RB,hi,R0,l];rw [a,o _ hv (by simp [g])];simp [newRow]
theorem HW{t e:TypeId}{a:List T}{n m:Int}{kn km:IntKind}(q:P.underlying t=some (.slice e))(hz:jq P e=some a)(hb:P.bytesOf e<=8192)(p:a.length=P.cellsOf e)(o: 0<=n)(h1:n<=m)(d:m<=fV):
  ∃zv:Value,aN w A a zv.cells.toList/\(Instr.makeSlice t (.int kn n) (.int km m)).run P w= .ok (.slice (some ⟨w.heap.size,0,none⟩) n.toNat m.toNat) (w.alloc (.cells (madeCells zv.cells (m.toNat * P.cellsOf e)) e)):=by
 obtain⟨i,zv,hi,k,g⟩:=nM hz;have j:P.cellsOf e=i.size:=by simp [Program.cellsOf,hi]
 have f:P.bytesOf e=i.bytes:=by simp [Program.bytesOf,hi]
 refine⟨zv,oH g, ?_⟩;rw [j];refine run_make w t e i zv q hi k kn km n m o h1 ?_ ?_
 .rw [f] at hb;have:(i.bytes:Int) * m<=8192 * 4294967296:=by
   have l:(i.bytes:Int)<=8192:=by omega
   have b:m<=4294967296:=by simpa [fV] using d
   calc (i.bytes:Int) * m<=8192 * m:=R2 l (by omega)
    _<=8192 * 4294967296:=RG b (by omega)
  omega
 .have b:m<=4294967296:=by simpa [fV] using d
  omega
theorem A6{zv:Array Value}{sz:Nat}(hz:zv.size=sz)(n m:Nat)(g:n<=m):∀(p:Nat) (v:Value),(List.replicate n zv.toList).flatten[p]? =some v->(madeCells zv (m * sz))[p]? =some v:=by
 intro p v a;have b:p < n * sz:=by have:=(Rz.1 a).1;simpa [hz] using this
 have f: 0 < sz:=by
  rcases Nat.eq_zero_or_pos sz with e | e
  .rw [e] at b;simp at b
  .exact e
 have hm:n * sz<=m * sz:=Sc _ g;have key:∀n p,p < n * sz->(List.replicate n zv.toList).flatten[p]? =zv[p % sz]?:=by
  intro n;induction n with
  | zero=>intro p h;simp at h
  | succ n i=>
   intro p h;rw [Sj,TB];by_cases a:p < sz
   .rw [SH (by simpa [hz] using a),TI a];simp
   .rw [Sp (by simp [hz];omega)];simp only [RR,hz];have j:(n+1) * sz=n * sz+sz:=Sn _ _;rw [i _ (by omega)];congr 1;exact(Nat.mod_eq_sub_mod (by omega)).symm
 rw [key n p b] at a;have d:p % sz < zv.size:=by rw [hz];exact Vd _ f
 simp only [madeCells,Array.getElem?_map];rw [TM (by simp;omega)];simp only [Array.getElem_range,Ts,hz];rw [TM d] at a;rw [getElem!_pos zv _ d];exact a
theorem ct.replicate{sz:Nat}{a:List T}{vs:List Value}(d:aN w A a vs)(b:a.length=sz):∀n,ct w A sz (List.replicate n a) (List.replicate n vs)
 | 0=>rfl
 | n+1=>⟨vs,List.replicate n vs,rfl,b,d,ct.replicate d b n⟩
end
end Go.Aev
