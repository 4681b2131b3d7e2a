import Derived.Test.YtcjplcpngagalaaGreatDoorBlastUpsQ1
import Derived.ChangeKeysEq
import Derived.Deep.AppendSrc
import Derived.Great.FillDense
set_option linter.all false
namespace Go.Aev
open Go Go.IntKind
section
variable {P:Program} {w:World} {A:Nat->Prop}
theorem T.fg{k:IntKind}{x:T}{n:Int}(h:x.int? k=some n):x= .int k n:=by cases x <;> simp only [T.int?,reduceCtorEq] at h;split at h <;> simp_all
theorem T.gR{x:T}{b:Bool}(h:x.bool? =some b):x= .bool b:=by cases x <;> simp_all [T.bool?]
theorem T.ja{x:T}{s:ByteArray}(h:x.bh =some s):x= .str s:=by cases x <;> simp_all [T.bh]
theorem T.uB{x:T}{cs:List T}(h:x.oe =some cs):x= .ptr cs:=by cases x <;> simp_all [T.oe]
theorem T.nZ{sz:Nat}{x:T}{p:Bool×List (List T)}(h:x.ak sz=some p):x= .ab sz p.1 p.2\/(x= .ae p.1/\p.2= []):=by
 cases x <;> simp only [T.ak,reduceCtorEq,NL] at h
 case ab a b xs=>split at h <;> simp_all;subst h;simp
 case ae b=>subst h;simp
theorem IU{w:World}{A:Nat->Prop}{y:T}{v:Value}(h:tR y=true)(a:ay w A y v):v= .slice none 0 0:=by
 unfold tR at h;split at h
 .simp only [ay] at a;rcases a with⟨_,h⟩ | ⟨h,_⟩
  .exact h
  .cases h
 .simp only [ay] at a;rcases a with⟨_,_,h⟩ | ⟨h,_⟩
  .exact h
  .cases h
 .cases h
theorem AV.jX{v:AV}{x:T}(h:v.t? =some x):v= .t x:=by cases v <;> simp_all [AV.t?]
theorem nT{d R:Type}[Inhabited d]{c:Option Bool}{m:Option d}{k:d->Option R}{r:R}(h:aa c m k=some r):
  ∃a,k a=some r/\(m=some a\/(m=none/\c=some false)):=by
 unfold aa at h;cases m with
 | some a=>exact⟨a,h, .inl rfl⟩
 | none=>cases c with
  | none=>simp at h
  | some b=>cases b with
   | true=>simp at h
   | false=>exact⟨_,h, .inr ⟨rfl,rfl⟩⟩
def qn(P:Program)(R:Value->World->Prop):Result Next->Prop
 | .ok (.value x) w'=>R x w'
 | .ok .skip w'=>R undef w'
 | .ok (.enter f args) w'=>Calls P f args w' λe a=>∃x,e= .returned x/\R x a
 | _=>False
def gK(P:Program)(o:Oper)(a:Act)(w:World)(R:Value->World->Prop):Prop:=qn P R ((execOp a.eval o).run P w)
theorem gK.mono{o:Oper}{a:Act}{R b:Value->World->Prop}(h:gK P o a w R)(d:∀x w',R x w'->b x w'):gK P o a w b:=by
 unfold gK at *
 generalize (execOp a.eval o).run P w=r at *
 cases r with
 | ok n w'=>
  cases n <;> simp only [qn] at h⊢
  case enter=>exact h.mono λe i ⟨x,f,g⟩=>⟨x,f,d _ _ g⟩
  all_goals exact d _ _ h
 | halt x w'=>simp [qn] at h
theorem gK.wp{o:Oper}{a:Act}{R:Value->World->Prop}{K:Act->World->Prop}{Q:Exit->Act->World->Prop}(h:gK P o a w R)(b:∀x w',R x w'->K (a.put o.dst x) w'):o.wp P a w K Q:=by
 unfold gK at h;unfold Oper.wp;generalize (execOp a.eval o).run P w=r at *
 cases r with
 | ok n w'=>
  cases n <;> simp only [qn] at h <;> simp only [Oper.upon]
  case enter=>exact h.mono λe g ⟨x,d,f⟩=>by subst d;exact b _ _ f
  all_goals first | exact b _ _ h | exact h.elim
 | halt x w'=>simp [qn] at h
theorem tO{t:TypeId}{d:TypeDesc}(h:P.underlying t=some d):∃i,P.info? t=some i/\P.cellsOf t=i.size:=by
 unfold Program.underlying at h;cases a:P.info? t with
 | none=>simp [a] at h
 | some i=>exact⟨i,rfl,by simp [Program.cellsOf,a]⟩
theorem hF{t:TypeId}(h:cb P t=true)(w:World):(sizeOf t).run P w= .ok (P.cellsOf t) w:=by unfold cb at h;obtain⟨d,a⟩:=Pk.1 h;obtain⟨i,b,hs⟩:=tO a;rw [hs];simp [sizeOf,typeInfo,b]
theorem pS{t:TypeId}(h:cb P t=true)(w:World):(isAgg t).run P w= .ok (bI P t) w:=by unfold cb at h;obtain⟨d,a⟩:=Pk.1 h;unfold isAgg bI;simp only [N9,run_underlying a,NX,a];cases d <;> rfl
theorem fp(k:IntKind)(n:Int)(w:World)(A:Nat->Prop):ay w A (.int k n) (.int k n):=by simp [ay]
theorem lX(b:Bool)(w:World)(A:Nat->Prop):ay w A (.bool b) (.bool b):=by simp [ay]
theorem jQ(b:ByteArray)(w:World)(A:Nat->Prop):ay w A (.str b) (.string b):=by simp [ay]
theorem Fp{R:Type}{op:BinOp}{k:IntKind}{c:Option Bool}{x y:T}{K:T->Option R}{r:R}{t:TypeId}{j l:Value}(f:c=none\/c=some true)
  (g:ay w A x j) (i:ay w A y l) (h:oN op k c x y K=some r):
  ∃z m,K z=some r/\(∀w A,ay w A z m)/\(binOp op t j l).run P w= .ok m w:=by
 unfold oN at h;replace h:=aO h f;obtain⟨a,n,h⟩:=h;replace h:=aO h f;obtain⟨b,o,h⟩:=h;have:=T.fg n;subst this;have:=T.fg o;subst this;simp only [ay] at g i;subst g;subst i;cases op <;> simp only [reduceCtorEq] at h
 case quo=>
  replace h:=aO h f;obtain⟨_,h0,h⟩:=h;have d:b≠0:=by intro e;simp [e] at h0
  exact⟨_,_,h,by first | exact fp _ _ | exact lX _ | exact jQ _,by simp [binOp,Op.intDiv,d]⟩
 case rem=>
  replace h:=aO h f;obtain⟨_,h0,h⟩:=h;have d:b≠0:=by intro e;simp [e] at h0
  exact⟨_,_,h,by first | exact fp _ _ | exact lX _ | exact jQ _,by simp [binOp,Op.intDiv,d]⟩
 all_goals exact⟨_,_,h,by first | exact fp _ _ | exact lX _ | exact jQ _,by simp [binOp,Op.intArith,Op.intBits,Op.intCmp]⟩
theorem MU{R:Type}{op:BinOp}{k p:IntKind}{c:Option Bool}{x y:T}{K:T->Option R}{r:R}{t:TypeId}{j l:Value}(d:c=none\/c=some true)
  (g:ay w A x j) (i:ay w A y l) (h:pV op k p c x y K=some r):
  ∃z m,K z=some r/\(∀w A,ay w A z m)/\(binOp op t j l).run P w= .ok m w:=by
 unfold pV at h;replace h:=aO h d;obtain⟨a,n,h⟩:=h;replace h:=aO h d;obtain⟨b,o,h⟩:=h;have:=T.fg n;subst this;have:=T.fg o;subst this;simp only [ay] at g i;subst g;subst i;replace h:=aO h d;obtain⟨_,h0,h⟩:=h;have f:¬b < 0:=by intro e;simp [e] at h0
 cases op <;> simp only [reduceCtorEq] at h
 all_goals exact⟨_,_,h,by first | exact fp _ _ | exact lX _ | exact jQ _,by simp [binOp,Op.shift,f]⟩
theorem Nj{R:Type}{op:BinOp}{c:Option Bool}{x y:T}{K:T->Option R}{r:R}{t:TypeId}{j k:Value}(d:c=none\/c=some true)
  (g:ay w A x j) (i:ay w A y k) (h:p4 op c x y K=some r):
  ∃z l,K z=some r/\(∀w A,ay w A z l)/\(binOp op t j k).run P w= .ok l w:=by
 unfold p4 at h;replace h:=aO h d;obtain⟨a,m,h⟩:=h;replace h:=aO h d;obtain⟨b,n,h⟩:=h;have:=T.ja m;subst this;have:=T.ja n;subst this;simp only [ay] at g i;subst g;subst i;cases op <;> simp only [reduceCtorEq] at h
 case add=>
  replace h:=aO h d;obtain⟨_,h0,h⟩:=h;have o:a.size+b.size<=4294967296:=by
   by_cases e:a.size+b.size<=4294967296
   .exact e
   .simp [e] at h0
  have f:¬(((a.size+b.size:Nat):Int) > i64.max):=by
   have:i64.max=9223372036854775807:=by decide
   rw [this];omega
  exact⟨_,_,h,by first | exact fp _ _ | exact lX _ | exact jQ _,by simp only [binOp,Op.stringOp,if_neg f];rfl⟩
 all_goals exact⟨_,_,h,by first | exact fp _ _ | exact lX _ | exact jQ _,by simp [binOp,Op.stringOp]⟩
theorem Fw{R:Type}{op:BinOp}{t ty:TypeId}{c:Option Bool}{x y:T}{K:T->Option R}{r:R}{e f:Value}(a:c=none\/c=some true)
  (b:ay w A x e) (d:ay w A y f) (h:oP P op t ty c x y K=some r):
  (op≠ .eql/\op≠ .neq)/\∃z g,K z=some r/\(∀w A,ay w A z g)/\(binOp op t e f).run P w= .ok g w:=by
 unfold oP at h;cases op <;> simp only [reduceCtorEq] at h <;> refine⟨⟨by simp,by simp⟩, ?_⟩ <;> split at h <;> first | exact Fp a b d h | exact MU a b d h | exact Nj a b d h | simp at h
theorem Nz{R:Type}{op:UnOp}{t:TypeId}{c:Option Bool}{x:T}{K:T->Option R}{r:R}{f:Value}(e:c=none\/c=some true)
  (b:ay w A x f) (h:p9 P op t c x K=some r):
  ∃z g,K z=some r/\(∀w A,ay w A z g)/\(Op.unary op f).run P w= .ok g w:=by
 unfold p9 at h;split at h
 .replace h:=aO h e;obtain⟨a,d,h⟩:=h;have:=T.fg d;subst this;simp only [ay] at b;subst b;exact⟨_,_,h,by first | exact fp _ _ | exact lX _ | exact jQ _,by simp [Op.unary,Op.intArith]⟩
 .replace h:=aO h e;obtain⟨a,d,h⟩:=h;have:=T.fg d;subst this;simp only [ay] at b;subst b;exact⟨_,_,h,by first | exact fp _ _ | exact lX _ | exact jQ _,by simp [Op.unary,Op.intBits]⟩
 .replace h:=aO h e;obtain⟨a,d,h⟩:=h;have:=T.gR d;subst this;simp only [ay] at b;subst b;exact⟨_,_,h,by first | exact fp _ _ | exact lX _ | exact jQ _,by simp [Op.unary]⟩
 .simp at h
theorem Ip{R:Type}{d:Nat}{t:TypeId}{c:Option Bool}{x y:T}{K:Bool->Option R}{r:R}{m n:Value}(e:c=none\/c=some true)
  (f:ay w A x m) (g:ay w A y n) (h:jK P c t x y K=some r):∃b,K b=some r/\(Op.equalIn (d+1) t m n).run P w= .ok b w:=by
 unfold jK at h;split at h
 .rename_i k l;replace h:=aO h e;obtain⟨a,i,h⟩:=h;replace h:=aO h e;obtain⟨b,j,h⟩:=h;have:=T.fg i;subst this;have:=T.fg j;subst this;simp only [ay] at f g;subst f;subst g;exact⟨_,h,by simp [Op.equalIn,run_underlying l]⟩
 .rename_i l;replace h:=aO h e;obtain⟨a,i,h⟩:=h;replace h:=aO h e;obtain⟨b,j,h⟩:=h;have:=T.gR i;subst this;have:=T.gR j;subst this;simp only [ay] at f g;subst f;subst g;exact⟨_,h,by simp [Op.equalIn,run_underlying l]⟩
 .rename_i l;replace h:=aO h e;obtain⟨a,i,h⟩:=h;replace h:=aO h e;obtain⟨b,j,h⟩:=h;have:=T.ja i;subst this;have:=T.ja j;subst this;simp only [ay] at f g;subst f;subst g;exact⟨_,h,by simp [Op.equalIn,run_underlying l]⟩
 .simp at h
theorem wS{R:Type}{c:Option Bool}(d:List TypeId):∀(ts:List TypeId) (xs a:List T) (K:Bool->Option R),
  dN P c (ts++d) xs a K=dN P c ts (xs.take ts.length) (a.take ts.length) (λq=>dN P c d (xs.drop ts.length) (a.drop ts.length) λe=>K (q && e))
 | [],xs,a,K=>by simp [dN]
 | t::ts,[],a,K=>by simp [dN]
 | t::ts,x::xs,[],K=>by simp [dN]
 | t::ts,x::xs,y::a,K=>by simp only [OL,NV,Qb,List.drop_succ_cons,dN];congr 1;funext b;rw [wS d ts xs a];simp only [Bool.and_assoc]
theorem aU.take{cs:List T}{vs:List Value}(h:aU w A cs vs):∀n,aU w A (cs.take n) (vs.take n):=by
 intro n;induction n generalizing cs vs with
 | zero=>simp [aU]
 | succ n d=>
  cases cs with
  | nil=>simp only [aU] at h;subst h;simp [aU]
  | cons c cs=>obtain⟨v,r,rfl,a,b⟩:=h;exact⟨v,r.take n,rfl,a,d b⟩
theorem aU.drop{cs:List T}{vs:List Value}(h:aU w A cs vs):∀n,aU w A (cs.drop n) (vs.drop n):=by
 intro n;induction n generalizing cs vs with
 | zero=>simpa using h
 | succ n b=>
  cases cs with
  | nil=>simp only [aU] at h;subst h;simp [aU]
  | cons c cs=>obtain⟨v,r,rfl,d,a⟩:=h;exact b a
end
open Go Go.IntKind
section
variable {P:Program} {w:World} {A:Nat->Prop}
def jd(P:Program)(t:TypeId)(vs:List Value):Value:=if bI P t=true then .agg vs.toArray else vs.headD undef
theorem rQ{t:TypeId}(b:cb P t=true)(xs:Array Value)(off:Nat)(d:bI P t=false->P.cellsOf t=1)(e:off+P.cellsOf t<=xs.size)(w:World):
  (part t xs off).run P w= .ok (jd P t ((xs.toList.drop off).take (P.cellsOf t))) w:=by
 unfold part jd;simp only [N9,pS b,NX];cases f:bI P t
 .simp only [Od,if_false];rw [d f] at e⊢;have a:off < xs.size:=by omega
  have:xs[off]? =some xs[off]:=Px a;rw [this];have hl:off < xs.toList.length:=by simpa using a
  rw [PR hl];simp
 .simp only [if_true,N9,hF b,NX,Oo];congr 2;apply Pr;simp [Qo,Qc]
theorem aU.part{xs:List T}{vs:List Value}(h:aU w A xs vs)(off n:Nat):aU w A ((xs.drop off).take n) ((vs.drop off).take n):=(h.drop off).take n
theorem pe{R:Type}{c:Option Bool}(a:c=none\/c=some true):∀{ts:List TypeId} {xs d:List T} {K:Bool->Option R} {r:R},dN P c ts xs d K=some r->xs.length=ts.length/\d.length=ts.length
 | [],[],[],_,_,_=>⟨rfl,rfl⟩
 | t::ts,x::xs,y::d,K,r,h=>by
  simp only [dN] at h;have:∃b,dN P c ts xs d (λr=>K (b && r))=some r:=by
   unfold jK at h;split at h
   .replace h:=aO h a;obtain⟨_,_,h⟩:=h;replace h:=aO h a;obtain⟨_,_,h⟩:=h;exact⟨_,h⟩
   .replace h:=aO h a;obtain⟨_,_,h⟩:=h;replace h:=aO h a;obtain⟨_,_,h⟩:=h;exact⟨_,h⟩
   .replace h:=aO h a;obtain⟨_,_,h⟩:=h;replace h:=aO h a;obtain⟨_,_,h⟩:=h;exact⟨_,h⟩
   .simp at h
  obtain⟨b,g⟩:=this;obtain⟨e,f⟩:=pe a g;simp [e,f]
 | [],[],_::_,_,_,h=>by simp [dN] at h
 | [],_::_,_,_,_,h=>by simp [dN] at h
 | _::_,[],_,_,_,h=>by simp [dN] at h
 | _::_,_::_,[],_,_,h=>by simp [dN] at h
theorem nQ{n:Nat}{t:TypeId}{ts:List TypeId}(h:eL P n t=some ts):cb P t=true:=by
 cases n with
 | zero=>simp [eL] at h
 | succ n=>
  simp only [eL] at h;unfold cb;cases a:P.underlying t with
  | none=>simp [a] at h
  | some d=>rfl
theorem BN{n:Nat}{t:TypeId}{ts:List TypeId}(h:eL P n t=some ts)(a:bI P t=false):ts= [t]:=by
 cases n with
 | zero=>simp [eL] at h
 | succ n=>
  simp only [eL] at h;unfold bI at a;cases b:P.underlying t with
  | none=>simp [b] at h
  | some d=>cases d <;> simp_all
def vp(P:Program)(w:World)(A:Nat->Prop)(n:Nat):Prop:= ∀(t:TypeId) (ts:List TypeId),eL P n t=some ts->∀(d:Nat),n<=d->
 ∀(R:Type) (c:Option Bool),c=none\/c=some true->∀(xs f:List T) (a e:List Value) (K:Bool->Option R) (r:R),aU w A xs a->aU w A f e->dN P c ts xs f K=some r->
  ∃b,K b=some r/\(Op.equalIn d t (jd P t a) (jd P t e)).run P w= .ok b w
theorem Bz{n d:Nat}(B:vp P w A n)(z:n<=d){X Y:Array Value}{R:Type}{c:Option Bool}(i:c=none\/c=some true):
  ∀(e:List Field) (off:Nat) (ts:List TypeId),pn P (eL P n) e off=some ts->∀(xs o:List T) (K:Bool->Option R) (r:R),aU w A xs (X.toList.drop off)->aU w A o (Y.toList.drop off)->
   dN P c ts xs o K=some r->∃b,K b=some r/\(Op.eqFields d X Y e).run P w= .ok b w
 | [],off,ts,h,xs,o,K,r,k,m,a=>by simp only [pn,NL] at h;subst h;obtain⟨F,G⟩:=pe i a;have:=Oc.1 F;subst this;have:=Oc.1 G;subst this;exact⟨true,by simpa [dN] using a,by simp [Op.eqFields]⟩
 | f::e,off,ts,h,xs,o,K,r,k,m,a=>by
  simp only [pn] at h;by_cases j:f.offset=off/\f.name≠ "_"
  .rw [if_pos j] at h;cases hl:eL P n f.type with
   | none=>simp [hl] at h
   | some l=>
    simp only [hl,NO] at h;by_cases g:P.cellsOf f.type=l.length/\0 < l.length
    .rw [if_pos g] at h;obtain⟨hs,I⟩:=g;cases u:pn P (eL P n) e (off+l.length) with
     | none=>simp [u] at h
     | some q=>
      simp only [u,NO,NL] at h;subst h;obtain⟨J,L⟩:=pe i a;simp only [OB] at J L;rw [wS] at a;obtain⟨v,x,D⟩:=B f.type l hl d z R c i _ _ _ _ _ _ (k.take l.length) (m.take l.length) a;have p:=k.drop l.length;have t:=m.drop l.length;rw [P3] at p t;obtain⟨C,y,E⟩:=Bz B z i e (off+l.length) q u _ _ _ _ p t x;have sx:=k.length;have M:=m.length;simp only [ON,Oe] at sx M;have one:bI P f.type=false->P.cellsOf f.type=1:=λH=>by rw [hs,BN hl H];rfl
      refine⟨v && C,y, ?_⟩;simp only [Op.eqFields,ne_eq,j.2,not_false_eq_true,if_true,N9];rw [j.1,rQ (nQ hl) X off one (by rw [hs];omega) w];simp only [NX];rw [rQ (nQ hl) Y off one (by rw [hs];omega) w];simp only [NX,hs,D];cases v
      .simp
      .simp [E]
    .rw [if_neg g] at h;simp at h
  .rw [if_neg j] at h;simp at h
theorem BA{n d:Nat}(D:vp P w A n)(C:n<=d){X Y:Array Value}{R:Type}{c:Option Bool}(i:c=none\/c=some true){e:TypeId}{l:List TypeId}(hl:eL P n e=some l)(hs:P.cellsOf e=l.length):
  ∀(m k:Nat) (xs p:List T) (K:Bool->Option R) (r:R),aU w A xs (X.toList.drop (k * P.cellsOf e))->aU w A p (Y.toList.drop (k * P.cellsOf e))->
   dN P c (List.replicate m l).flatten xs p K=some r->∃b,K b=some r/\(Op.eqItems d e (P.cellsOf e) X Y (List.range' k m)).run P w= .ok b w
 | 0,k,xs,p,K,r,j,o,a=>by obtain⟨F,G⟩:=pe i a;have:=Oc.1 F;subst this;have:=Oc.1 G;subst this;exact⟨true,by simpa [dN] using a,by simp [Op.eqItems]⟩
 | m+1,k,xs,p,K,r,j,o,a=>by
  simp only [Ph,Pn] at a;obtain⟨I,J⟩:=pe i a;simp only [OB] at I J;rw [wS] at a;obtain⟨g,B,f⟩:=D e l hl d C R c i _ _ _ _ _ _ (j.take l.length) (o.take l.length) a;have t:=j.drop l.length;have u:=o.drop l.length;have H:k * P.cellsOf e+l.length= (k+1) * P.cellsOf e:=by rw [hs,OJ]
  rw [P3,H] at t u;obtain⟨z,q,v⟩:=BA D C i hl hs m (k+1) _ _ _ _ t u B;have sx:=j.length;have E:=o.length;simp only [ON,Oe] at sx E;have one:bI P e=false->P.cellsOf e=1:=λy=>by rw [hs,BN hl y];rfl
  by_cases h0:l.length=0
  ·
   refine⟨g && z,q, ?_⟩;have x:bI P e=true:=by
    cases y:bI P e
    .have:=one y;omega
    .rfl
   have L:∀(Z:Array Value) (w:World),(part e Z (k * P.cellsOf e)).run P w= .ok (jd P e []) w:=by intro Z w;unfold part jd;simp only [N9,pS (nQ hl),NX,x,if_true,hF (nQ hl),Oo,hs,h0];simp
   simp only [P5,Op.eqItems,N9,L,NX];rw [h0] at f;simp only [QI] at f;rw [f];cases g
   .simp
   .simp [v]
  .refine⟨g && z,q, ?_⟩;simp only [P5,Op.eqItems,N9];rw [rQ (nQ hl) X _ one (by rw [hs] at sx⊢;omega) w];simp only [NX];rw [rQ (nQ hl) Y _ one (by rw [hs] at E⊢;omega) w];simp only [NX,hs];rw [hs] at f v;simp only [f,NX];cases g
   .simp
   .simp [v]
theorem wV:∀n,vp P w A n
 | 0=>by intro t ts h;simp [eL] at h
 | n+1=>by
  intro t ts h d Y R c k xs o V W K r B C j;obtain⟨d,rfl⟩:∃N,d=N+1:=⟨d - 1,by omega⟩;have M:=wV n;simp only [eL] at h;have a:bI P t=false->ts= [t]->∃b,K b=some r/\(Op.equalIn (d+1) t (jd P t V) (jd P t W)).run P w= .ok b w:=by
   intro T L;subst L;obtain⟨D,E⟩:=pe k j;cases xs with
   | nil=>simp at D
   | cons x xs=>cases o with
    | nil=>simp at E
    | cons y o=>simp only [NV,N7,Ov,Nat.add_eq_right,Oc] at D E;subst D;subst E;obtain⟨v,q,rfl,Q,hq⟩:=B;obtain⟨u,p,rfl,S,Z⟩:=C;simp only [dN,OW] at j;simpa [jd,T] using Ip (d:=d) k Q S j
  cases f:P.underlying t with
  | none=>simp [f] at h
  | some ds=>
   cases ds <;> simp only [f,reduceCtorEq,NL] at h
   case int=>exact a (by simp [bI,f]) h.symm
   case bool=>exact a (by simp [bI,f]) h.symm
   case string=>exact a (by simp [bI,f]) h.symm
   case struct F=>
    split at h
    .simp at h
    .rename_i J;have g:bI P t=true:=by simp [bI,f]
     have H:P.underlying t=some (.struct (P.fieldsOf t)):=by simp [Program.fieldsOf,f]
     have I:P.fieldsOf t=F:=by simp [Program.fieldsOf,f]
     simp only [jd,g,if_true];rw [run_equalIn_struct w d t _ _ H (by simpa using J),I];exact Bz M (by omega) k F.toList 0 ts h xs o K r (by simpa using B) (by simpa using C) j
   case array m e=>
    cases hl:eL P n e with
    | none=>simp [hl] at h
    | some l=>
     simp only [hl,NO] at h;split at h
     .rename_i hs;simp only [NL] at h;subst h;have g:bI P t=true:=by simp [bI,f]
      have z:=nQ hl;unfold cb at z;obtain⟨X,G⟩:=Pk.1 z;obtain⟨i,U,_⟩:=tO G;simp only [jd,g,if_true];rw [run_equalIn_array w d _ _ f U,Qp];exact BA M (by omega) k hl hs m 0 xs o K r (by simpa using B) (by simpa using C) j
     .simp at h
theorem Bt{R:Type}{ρ:Id->Option Value}{t:TypeId}{c:Option Bool}{x y:AV}{K:Bool->Option R}{r:R}{v z:Value}(l:c=none\/c=some true)
  (f:aj w A ρ x v) (g:aj w A ρ y z) (h:nN P c t x y K=some r) (B C:Operand):
  ∃b,K b=some r/\((eqGuard .eql t B C v z).run P w= .ok () w/\(binOp .eql t v z).run P w= .ok (.bool b) w)/\((eqGuard .neq t B C v z).run P w= .ok () w/\(binOp .neq t v z).run P w= .ok (.bool (!b)) w):=by
 unfold nN at h;split at h
 .rename_i x y;simp only [aj] at f g;cases p:xm P t
  .simp only [p,cond_false] at h;have d:=h;unfold jK at d;split at d
   .rename_i k u;replace d:=aO d l;obtain⟨a,o,d⟩:=d;replace d:=aO d l;obtain⟨b,j,d⟩:=d;have:=T.fg o;subst this;have:=T.fg j;subst this;simp only [ay] at f g;subst f;subst g;exact⟨_,d,⟨by simp [eqGuard],by simp [binOp,Op.intCmp]⟩,⟨by simp [eqGuard],by simp [binOp,Op.intCmp,bne]⟩⟩
   .rename_i u;replace d:=aO d l;obtain⟨a,o,d⟩:=d;replace d:=aO d l;obtain⟨b,j,d⟩:=d;have:=T.gR o;subst this;have:=T.gR j;subst this;simp only [ay] at f g;subst f;subst g;exact⟨_,d,⟨by simp [eqGuard],run_eql_bool w t a b u⟩,⟨by simp [eqGuard],run_neq_bool w t a b u⟩⟩
   .rename_i u;simp [xm,u] at p
   .simp at d
  .simp only [p,cond_true] at h;replace h:=aO h l;obtain⟨a,o,h⟩:=h;replace h:=aO h l;obtain⟨b,j,h⟩:=h;have:=T.ja o;subst this;have:=T.ja j;subst this;simp only [ay] at f g;subst f;subst g;exact⟨_,h,⟨by simp [eqGuard],by simp [binOp,Op.stringOp]⟩,⟨by simp [eqGuard],by simp [binOp,Op.stringOp]⟩⟩
 .rename_i xs J;cases m:(P.eqGuardType P.depth t || !bI P t)
  .simp only [m,cond_false] at h;simp only [Pm,PJ] at m;obtain⟨m,E⟩:=m;cases i:dJ xs with
   | none=>simp [i] at h
   | some F=>
    cases n:dJ J with
    | none=>simp [i,n] at h
    | some G=>
     cases q:eL P 8 t with
     | none=>simp [i,n,q] at h
     | some ts=>simp only [i,n,q,NO] at h;simp only [aj] at f g;obtain⟨H,rfl,f,_⟩:=f;obtain⟨I,rfl,g,_⟩:=g;have D:bI P t=true:=E;obtain⟨b,j,e⟩:=wV 8 t ts q 10000 (by omega) R c l F G H I K r (aU.jr i f) (aU.jr n g) h;simp only [jd,D,if_true] at e;exact⟨b,j,⟨run_eqGuard_agg w .eql t B C _ _ m,by rw [run_eql_struct,e];rfl⟩,⟨run_eqGuard_agg w .neq t B C _ _ m,by rw [run_neq_struct,e];rfl⟩⟩
  .simp [m] at h
 .simp at h
end
open Go Go.IntKind
section
variable {P:Program} {w w':World} {A A':Nat->Prop} {c:Ctx} {ρ:Id->Option Value} {O:Id->Option Nat} {s:St} {cc:Option Bool}
theorem fK(b o j:Nat):(⟨b,o,none⟩:Addr).add j= ⟨b,o+j,none⟩:=by
 unfold Addr.add;split
 .rename_i h;subst h;rfl
 .rfl
theorem bd.bo{af:Nat}:∀{off:Nat} {cs:List T},bd w A af off cs->∃vs,aU w A cs vs/\∀j v,vs[j]? =some v->w.cell? ⟨af,off+j,none⟩=some v
 | _,[],_=>⟨[],rfl,by simp⟩
 | off,x::cs,h=>by
  simp only [bd] at h;obtain⟨⟨v,i,g⟩,b⟩:=h;obtain⟨vs,d,f⟩:=bd.bo b;refine⟨v::vs,⟨v,vs,rfl,g,d⟩, ?_⟩;intro j u a;cases j with
  | zero=>simp at a;subst a;exact i
  | succ j=>
   have:=f j u (by simpa using a);have e:off+1+j=off+ (j+1):=by omega
   rw [e] at this;exact this
theorem aU.one:∀{cs:List T} {vs:List Value},aU w A cs vs->∀u∈vs,u.oneCell'=true/\u.cells= #[u]
 | [],vs,h,u,hu=>by simp only [aU] at h;subst h;cases hu
 | x::cs,vs,⟨v,r,e,a,b⟩,u,hu=>by
  subst e;rcases N2.1 hu with rfl | hu
  .exact a.n9
  .exact aU.one b u hu
theorem u4{R:Type}(b:cc=none\/cc=some true):∀{n:Nat} {cs:List T} {K:List T->Option R} {r:R},mZ cc n cs K=some r->∃l,l=cs.take n/\l.length=n/\K l=some r
 | 0,cs,K,r,h=>⟨[],by simp,rfl,h⟩
 | n+1,cs,K,r,h=>by
  simp only [mZ] at h;replace h:=aO h b;obtain⟨x,a,h⟩:=h;obtain⟨l,d,e,f⟩:=u4 b h;cases cs with
  | nil=>simp at a
  | cons y cs=>simp only [OP,NL] at a;subst a;exact⟨y::l,by simp [d],by simp [e],f⟩
theorem yC:∀{n:Nat} {cs l:List AV},kY n cs=some l->l=cs.take n/\l.length=n
 | 0,cs,l,h=>by simp only [kY,NL] at h;subst h;simp
 | n+1,[],l,h=>by simp [kY] at h
 | n+1,x::cs,l,h=>by
  simp only [kY] at h;cases a:kY n cs with
  | none=>simp [a] at h
  | some q=>simp only [a,NO,NL] at h;subst h;obtain⟨b,d⟩:=yC a;exact⟨by simp [b],by simp [d]⟩
theorem yg{t:TypeId}(a:cb P t=true)(d:bI P t=true)(b off:Nat)(vs:List Value)(hl:vs.length=P.cellsOf t)(h:∀j v,vs[j]? =some v->w.cell? ⟨b,off+j,none⟩=some v):
  (loadVar t ⟨b,off,none⟩).run P w= .ok (.agg vs.toArray) w:=by
 unfold loadVar;simp only [N9,pS a,NX,d,if_true,hF a,<-hl];rw [run_loadCells_list w ⟨b,off,none⟩ vs (λj v e=>by rw [fK];exact h j v e)];rfl
theorem uP{t:TypeId}(d:cb P t=true)(a:bI P t=false)(b off:Nat)(v:Value)(h:w.cell? ⟨b,off,none⟩=some v):
  (loadVar t ⟨b,off,none⟩).run P w= .ok v w:=by
 unfold loadVar;simp only [N9,pS d,NX,a,Od,if_false];rw [run_load,h]
theorem na{R:Type}{k:Ck}{x:T}{v:Value}{K:T->Option R}{r:R}(e:cc=none\/cc=some true)(a:ay w A x v)(h:eD k cc x K=some r):
  ∃y,K y=some r/\ay w A y v:=by
 unfold eD at h;cases k with
 | i k=>simp only at h;replace h:=aO h e;obtain⟨n,d,h⟩:=h;rw [T.fg d] at a;exact⟨_,h,a⟩
 | b=>simp only at h;replace h:=aO h e;obtain⟨n,d,h⟩:=h;rw [T.gR d] at a;exact⟨_,h,a⟩
 | s=>simp only at h;replace h:=aO h e;obtain⟨n,d,h⟩:=h;rw [T.ja d] at a;exact⟨_,h,a⟩
 | l sz=>
  simp only at h;replace h:=aO h e;obtain⟨p,j,h⟩:=h;refine⟨_,h, ?_⟩;rcases T.nZ j with rfl | ⟨rfl,g⟩
  .exact a
  .rw [g];simp only [ay] at a⊢;rcases a with⟨f,rfl⟩ | ⟨f,af,off,sp,rfl⟩
   .exact .inl ⟨f,trivial,rfl⟩
   .exact .inr ⟨f,af,off,sp,0,rfl,by simp, .inl trivial,trivial⟩
 | x=>exact⟨_,h,a⟩
theorem rX{R:Type}(d:cc=none\/cc=some true):∀{ks:List Ck} {xs:List T} {vs:List Value} {K:List T->Option R} {r:R},aU w A xs vs->ef cc ks xs K=some r->
  ∃b,K b=some r/\aU w A b vs
 | [],xs,vs,K,r,a,h=>⟨_,h,a⟩
 | _::_,[],vs,K,r,a,h=>⟨_,h,a⟩
 | k::ks,x::xs,vs,K,r,a,h=>by obtain⟨v,q,rfl,g,i⟩:=a;simp only [ef] at h;obtain⟨y,h,e⟩:=na d g h;obtain⟨b,h,f⟩:=rX d i h;exact⟨_,h,⟨v,q,rfl,e,f⟩⟩
theorem Nn{R:Type}{k:Ck}{x:T}{K:T->Option R}{r:R}(d:cc=none\/cc=some true)(h:eD k cc x K=some r):
  ∃y,K y=some r/\∀(w:World) (A:Nat->Prop) (v:Value),ay w A x v->ay w A y v:=by
 have e:eD k cc x K= (eD k cc x some).bind K:=by rw [l9];rfl
 rw [e] at h;obtain⟨y,f,h⟩:=NM.1 h;refine⟨y,h,λw A v a=> ?_⟩;obtain⟨z,b,a⟩:=na d a f;simp only [NL] at b;subst b;exact a
theorem Np{R:Type}{ks:List Ck}{xs:List T}{K:List T->Option R}{r:R}(d:cc=none\/cc=some true)(h:ef cc ks xs K=some r):
  ∃y,K y=some r/\∀(w:World) (A:Nat->Prop) (vs:List Value),aU w A xs vs->aU w A y vs:=by
 have e:ef cc ks xs K= (ef cc ks xs some).bind K:=by rw [p8];rfl
 rw [e] at h;obtain⟨y,f,h⟩:=NM.1 h;refine⟨y,h,λw A v a=> ?_⟩;obtain⟨z,b,a⟩:=rX d a f;simp only [NL] at b;subst b;exact a
theorem Nr{R:Type}{t:TypeId}{v:AV}{K:AV->Option R}{r:R}(b:cc=none\/cc=some true)(h:kZ P cc t v K=some r):
  ∃y,K y=some r/\∀(w:World) (A:Nat->Prop) (ρ:Id->Option Value) (u:Value),aj w A ρ v u->aj w A ρ y u:=by
 unfold kZ at h;split at h
 .obtain⟨y,h,g⟩:=Nn b h;exact⟨_,h,λw A ρ u a=>by simp only [aj] at a⊢;exact g w A u a⟩
 .rename_i vs;split at h
  .rename_i l hl;obtain⟨y,h,g⟩:=Np b h;refine⟨_,h,λw A ρ u a=> ?_⟩;simp only [aj] at a⊢;obtain⟨d,e,f,i⟩:=a;exact⟨d,e,az.jO (g w A d (aU.jr hl f)),i⟩
  .exact⟨_,h,λw A ρ u a=>a⟩
 .exact⟨_,h,λw A ρ u a=>a⟩
theorem vd{R:Type}(b:cc=none\/cc=some true):∀{ts:List TypeId} {vs:List AV} {K:List AV->Option R} {r:R},hJ P cc ts vs K=some r->
  ∃y,K y=some r/\∀(w:World) (A:Nat->Prop) (ρ:Id->Option Value) (us:List Value),az w A ρ vs us->az w A ρ y us
 | [],vs,K,r,h=>⟨_,h,λw A ρ u a=>a⟩
 | _::_,[],K,r,h=>⟨_,h,λw A ρ u a=>a⟩
 | t::ts,v::vs,K,r,h=>by simp only [hJ] at h;obtain⟨y,h,d⟩:=Nr b h;obtain⟨j,h,f⟩:=vd b h;refine⟨_,h,λw A ρ us a=> ?_⟩;simp only [az] at a⊢;obtain⟨u,q,e,g,i⟩:=a;exact⟨u,q,e,d w A ρ u g,f w A ρ q i⟩
theorem uc{R:Type}{t:TypeId}(n:cb P t=true){b off:Nat}{cs:List T}{K:AV->Option R}{r:R}(e:cc=none\/cc=some true)(B:bd w A b off cs)(h:jn P t cc cs K=some r):
  ∃i v,K i=some r/\(loadVar t ⟨b,off,none⟩).run P w= .ok v w/\aj w A ρ i v:=by
 obtain⟨vs,k,m⟩:=B.bo;unfold jn at h;cases d:bI P t
 .simp only [d,cond_false] at h;replace h:=aO h e;obtain⟨x,g,h⟩:=h;cases cs with
  | nil=>simp at g
  | cons y cs=>simp only [OP,NL] at g;subst g;obtain⟨v,q,rfl,a,_⟩:=k;obtain⟨z,h,a⟩:=na e a h;exact⟨_,v,h,uP n d b off v (by simpa using m 0 v rfl),by simpa [aj] using a⟩
 .simp only [d,cond_true] at h;obtain⟨l,hl,u,h⟩:=u4 e h;have a:=k.take (P.cellsOf t);rw [<-hl] at a;have o:=a.length;obtain⟨C,h,p⟩:=rX e a h;refine⟨_,_,h,yg n d b off _ (by rw [o,u]) (λj v f=>m j v ?_), ?_⟩
  .rw [PK] at f;split at f
   .exact f
   .cases f
  .simp only [aj];exact⟨_,rfl,az.jO p,a.one⟩
theorem Jc{R:Type}{t:TypeId}(m:cb P t=true){b off:Nat}{cs:List AV}{vs:List Value}{K:AV->Option R}{r:R}(g:az w A ρ cs vs)(n:∀u∈vs,u.oneCell'=true/\u.cells= #[u])
  (k:∀j v,vs[j]? =some v->w.cell? ⟨b,off+j,none⟩=some v) (h:kO P t cs K=some r):
  ∃i v,K i=some r/\(loadVar t ⟨b,off,none⟩).run P w= .ok v w/\aj w A ρ i v:=by
 unfold kO at h;cases d:bI P t
 .simp only [d,cond_false] at h;cases cs with
  | nil=>simp at h
  | cons y cs=>simp only [OP,NO] at h;simp only [az] at g;obtain⟨v,q,rfl,a,_⟩:=g;exact⟨_,v,h,uP m d b off v (by simpa using k 0 v rfl),a⟩
 .simp only [d,cond_true] at h;cases f:kY (P.cellsOf t) cs with
  | none=>simp [f] at h
  | some l=>
   simp only [f,NO] at h;obtain⟨hl,p⟩:=yC f;have a:=g.take (P.cellsOf t);rw [<-hl] at a;have o:=a.length;refine⟨_,_,h,yg m d b off _ (by rw [o,p]) (λj v e=>k j v ?_), ?_⟩
   .rw [PK] at e;split at e
    .exact e
    .cases e
   .simp only [aj];exact⟨_,rfl,a,λu x=>n u (Pz x)⟩
theorem vI{i:Id}{cs:List AV}(hs:HS c w s.h ρ O)(k:s.h i=some (.box cs)):∃b arr t,ρ i=some (.pointer (some ⟨b,0,none⟩))/\O i=some b/\w.heap[b]? =some (.cells arr t (0,0))/\
  az w (AA c w O) ρ cs arr.toList/\(∀u∈arr.toList,u.oneCell'=true/\u.cells= #[u])/\∀j v,arr.toList[j]? =some v->w.cell? ⟨b,j,none⟩=some v:=by
 obtain⟨b,arr,t,d,e,a,f,g⟩:=hs.af i _ k;refine⟨b,arr,t,d,e,a,f,g,λj v l=> ?_⟩;simp only [World.cell?,a];simpa using l
theorem ot{i:Id}{fz b:Bool}{sz:Nat}{l:List (List T)}(hs:HS c w s.h ρ O)(e:s.h i=some (.sl fz sz b l)):∃v,ρ i=some v/\cJ w (AA c w O) sz b l v (λaf=>if fz=true then AA c w O af else O i=some af):=by obtain⟨v,a,d,_⟩:=hs.af i _ e;exact⟨v,a,d⟩
theorem cv.get{i:Id}{af sz col rsz:Nat}:∀{es:List Row} {base k:Nat} {e:Row},cv w A ρ O i af sz col rsz base es->es[k]? =some e->gL w A ρ O i af sz col rsz (base+k * sz) e
 | [],_,_,_,_,h=>by simp at h
 | x::es,base,0,e,a,h=>by simp only [PD,NL] at h;subst h;simpa using a.1
 | x::es,base,k+1,e,a,h=>by have:=cv.get a.2 (k:=k) (by simpa using h);rw [show base+ (k+1) * sz=base+sz+k * sz by rw [OJ];omega];exact this
theorem cv.own{i:Id}{af sz col rsz n:Nat}{p:Bool×List (List T)}:∀{es:List Row} {base:Nat},cv w A ρ O i af sz col rsz base es->cA n es=some p->∃v,ρ (.g i n)=some v/\cJ w A rsz p.1 p.2 v (λb=>O (.g i n)=some b)
 | [],_,_,h=>by simp [cA] at h
 | e::es,base,f,h=>by
  unfold cA at h;split at h
  .rename_i en;obtain⟨_,_,_,v,_,d,a⟩:=f.1;rw [h] at a;rw [en] at d a;exact⟨v,d,a⟩
  .exact cv.own f.2 h
theorem uN{i:Id}{b:Bool}{sz col rsz j n:Nat}{es:List Row}{p:Bool×List (List T)}(hs:HS c w s.h ρ O)(f:s.h i=some (.rows b sz col rsz j es))(e:cA n es=some p):
  ∃v,ρ (.g i n)=some v/\cJ w (AA c w O) rsz p.1 p.2 v (λb=>O (.g i n)=some b):=by
 obtain⟨a,cap,l,m,o,q,d⟩:=hs.af i _ f;rcases d with d | ⟨af,off,arr,t,r,u,x,y,k⟩
 .have:es= []:=Oc.1 (by omega);subst this;simp [cA] at e
 .exact k.own e
theorem yc{R:Type}{i:Id}{n:Nat}{K:Nat->Bool->List (List T)->Option R}{r:R}(hs:HS c w s.h ρ O)(e:cc=none\/cc=some true)(h:jT s.h cc i n K=some r):
  ∃rsz b xs v,K rsz b xs=some r/\ρ (.g i n)=some v/\cJ w (AA c w O) rsz b xs v (λaf=>O (.g i n)=some af):=by
 unfold jT at h;split at h
 .rename_i f;replace h:=aO h e;obtain⟨p,j,h⟩:=h;obtain⟨v,a,d⟩:=uN hs f j;exact⟨_,_,_,v,h,a,d⟩
 .cases h
theorem gL.bo{i:Id}{af sz col rsz base:Nat}{e:Row}(h:gL w A ρ O i af sz col rsz base e):∃vs:List Value,vs.length=sz/\(∀j v,vs[j]? =some v->w.cell? ⟨af,base+j,none⟩=some v)/\
  (∀j x v,j≠col->e.cs[j]? =some x->vs[j]? =some v->ay w A x v)/\∃v,vs[col]? =some v/\ρ (.g i e.n)=some v:=by
 obtain⟨D,t,l,v,m,y,E⟩:=h;have o:∀j,j < sz->∃u,w.cell? ⟨af,base+j,none⟩=some u:=by
  intro j a;by_cases d:j=col
  .subst d;exact⟨v,m⟩
  .obtain⟨u,g,_⟩:=l j (e.cs[j]'(by omega)) d (NZ _);exact⟨u,g⟩
 have get:∀j u,((List.range sz).map λj=>(w.cell? ⟨af,base+j,none⟩).getD undef)[j]? =some u->w.cell? ⟨af,base+j,none⟩=some u:=by intro j u a;rw [OQ] at a;obtain⟨k,b,a⟩:=Pc.1 a;obtain⟨p,b⟩:=NQ.1 b;rw [List.getElem_range] at b;subst b;obtain⟨C,q⟩:=o j (by simpa using p);rw [q] at a⊢;simpa using a
 refine⟨_,by simp,get,λj x u a B z=> ?_,v, ?_,y⟩
 .obtain⟨C,f,r⟩:=l j x a B;rw [get j u z] at f;cases f;exact r
 .rw [OQ,List.getElem?_range t];simp [m]
theorem az.rC:∀{b:List AV} {vs:List Value},b.length=vs.length->(∀(j:Nat) (a:AV) (v:Value),b[j]? =some a->vs[j]? =some v->aj w A ρ a v)->az w A ρ b vs
 | [],[],_,_=>by simp [az]
 | [],_::_,h,_=>by simp at h
 | _::_,[],h,_=>by simp at h
 | a::b,v::vs,h,d=>by simp only [az];exact⟨v,vs,rfl,d 0 a v rfl rfl,az.rC (by simpa using h) λj a v e f=>d (j+1) a v (by simpa using e) (by simpa using f)⟩
theorem EN{R:Type}(p:cc=none\/cc=some true):∀{ks:List Ck} {xs:List T} {vs:List Value} {col:Nat} {K:List T->Option R} {r:R},xs.length=vs.length->(∀(j:Nat) (x:T) (v:Value),j≠col->xs[j]? =some x->vs[j]? =some v->ay w A x v)->
  (∀k,ks[col]? =some k->k= .x)->ef cc ks xs K=some r->∃b,K b=some r/\b.length=vs.length/\∀j x v,j≠col->b[j]? =some x->vs[j]? =some v->ay w A x v
 | [],xs,vs,col,K,r,hl,d,i,h=>⟨xs,h,hl,d⟩
 | k::ks,[],vs,col,K,r,hl,d,i,h=>⟨[],h,hl,by simp⟩
 | k::ks,x::xs,[],col,K,r,hl,d,i,h=>by simp at hl
 | k::ks,x::xs,v::vs,0,K,r,hl,d,i,h=>by
  simp only [ef] at h;have:k= .x:=i k rfl;subst this;simp only [eD] at h;have D:aU w A xs vs:=by
   have B:∀(xs:List T) (vs:List Value),xs.length=vs.length->(∀(j:Nat) (x:T) (v:Value),xs[j]? =some x->vs[j]? =some v->ay w A x v)->aU w A xs vs:=by
    intro xs;induction xs with
    | nil=>intro vs hl _;cases vs;rfl;simp at hl
    | cons x xs z=>
     intro vs hl d;cases vs with
     | nil=>simp at hl
     | cons v vs=>exact⟨v,vs,rfl,d 0 x v rfl rfl,z vs (by simpa using hl) λj x v e f=>d (j+1) x v (by simpa using e) (by simpa using f)⟩
   exact B xs vs (by simpa using hl) λj x v e f=>d (j+1) x v (by omega) (by simpa using e) (by simpa using f)
  obtain⟨b,h,g⟩:=rX p D h;have G:=g.length;refine⟨_,h,by simp;omega,λj y u t m l=> ?_⟩;cases j with
  | zero=>exact(t rfl).elim
  | succ j=>
   simp only [O9] at m l;have:∀(b:List T) (vs:List Value) (j:Nat),aU w A b vs->b[j]? =some y->vs[j]? =some u->ay w A y u:=by
    intro b;induction b with
    | nil=>intro vs j _ h;simp at h
    | cons a b z=>
     rintro vs j ⟨H,q,rfl,n,o⟩ e f;cases j with
     | zero=>simp at e f;subst e;subst f;exact n
     | succ j=>exact z q j o (by simpa using e) (by simpa using f)
   exact this b vs j g m l
 | k::ks,x::xs,v::vs,col+1,K,r,hl,d,i,h=>by
  simp only [ef] at h;obtain⟨y,h,n⟩:=na p (d 0 x v (by omega) rfl rfl) h;obtain⟨b,h,o,E⟩:=EN p (col:=col) (by simpa using hl) (λj x v t e f=>d (j+1) x v (by omega) (by simpa using e) (by simpa using f)) (λk C=>i k (by simpa using C)) h;refine⟨_,h,by simp [o],λj F u t m l=> ?_⟩;cases j with
  | zero=>simp at m l;subst m;subst l;exact n
  | succ j=>exact E j F u (by omega) (by simpa using m) (by simpa using l)
theorem I9{R:Type}{t:TypeId}{i:Id}{af sz col rsz base off:Nat}{e:Row}{h:Id->Option ad}{K:AV->Option R}{r:R}(hs:HS c w h ρ O)(C:cb P t=true)(o:cc=none\/cc=some true)(m:gL w (AA c w O) ρ O i af sz col rsz base e)(b:pA P t cc i sz col off e K=some r):
  ∃E v,K E=some r/\(loadVar t ⟨af,base+off,none⟩).run P w= .ok v w/\aj w (AA c w O) ρ E v:=by
 unfold pA at b;cases g:bI P t
 .simp only [g,cond_false] at b;split at b
  .rename_i d;subst d;obtain⟨_,_,_,v,N,Q,_⟩:=m;exact⟨_,v,b,uP C g _ _ v N,by simp only [aj];exact Q⟩
  .rename_i H;replace b:=aO b o;obtain⟨x,z,b⟩:=b;have I:e.cs[off]? =some x:=by rw [List.head?_drop] at z;exact z
   obtain⟨u,B,n⟩:=m.2.2.1 off x H I;obtain⟨y,b,M⟩:=na o n b;exact⟨_,u,b,uP C g _ _ u B,by simp only [aj];exact M⟩
 .simp only [g,cond_true] at b;split at b
  .rename_i p;obtain⟨rfl,Y⟩:=p;obtain⟨l,hl,Z,b⟩:=u4 o b;have T:=m.1;have G:l=e.cs:=by rw [hl,Qi (by omega)]
   subst G;obtain⟨vs,v1,V,W,vc,J,L⟩:=m.bo;have S:=m.2.1;obtain⟨X,b,B,n⟩:=EN o (ks:=(qp P t).set col .x) (col:=col) (by omega) W (λk b=>by
    rw [Pe] at b;simp only [if_true] at b;split at b
    .simpa using b.symm
    .cases b) b
   refine⟨_, .agg vs.toArray,b, ?_, ?_⟩
   .rw [PV];exact yg C g _ _ vs (by omega) V
   .simp only [aj];refine⟨vs,rfl,az.rC (by simp [B]) λj a v f D=> ?_,λu U=> ?_⟩
    .rw [Pe] at f;by_cases d:col=j
     .subst d;rw [if_pos rfl] at f;split at f
      .simp only [NL] at f;subst f;rw [J] at D;cases D;simp only [aj];exact L
      .cases f
     .rw [if_neg d,OQ] at f;obtain⟨x,z,rfl⟩:=Pc.1 f;simp only [aj];exact n j x v (λe=>d e.symm) z D
    .obtain⟨j,q⟩:=P2.1 U;by_cases d:j=col
     .subst d;rw [J] at q;cases q;exact hs.gone _ _ _ L
     .have F:j < X.length:=by have:=(NQ.1 q).1;omega
      exact(n j _ u d (NZ F) q).n9
  .cases b
theorem CC{R:Type}{t:TypeId}{a:AV}{va:Value}{K:AV->Option R}{r:R}(hs:HS c w s.h ρ O)(g:aj w (AA c w O) ρ a va)(m:cc=none\/cc=some true)(h:fG P s cc t a K=some r):
  ∃f v,K f=some r/\(Instr.loadAt t va).run P w= .ok v w/\aj w (AA c w O) ρ f v:=by
 unfold fG at h;cases D:cb P t
 .simp [D] at h
 simp only [D,cond_true] at h;split at h
 .rename_i i off;split at h
  .rename_i cs F;obtain⟨b,arr,W,B,J,h3,U,E,h6⟩:=vI hs F;simp only [aj] at g;obtain⟨b',d,rfl⟩:=g;rw [B] at d;simp only [NL,Pj,OK] at d;obtain⟨rfl,_⟩:=d;obtain⟨f,v,q,N,Q⟩:=Jc (b:=b) (off:=off) D (U.drop off) (λu hu=>E u (PS hu)) (λj v hj=>h6 _ v (by rw [Pu] at hj;exact hj)) h;exact⟨f,v,q,by simpa [Instr.loadAt,Instr.sureAddr] using N,Q⟩
  .rename_i l F;obtain⟨b,B,J,h3,U⟩:=hs.af i _ F;simp only [aj] at g;obtain⟨b',d,rfl⟩:=g;rw [B] at d;simp only [NL,Pj,OK] at d;obtain⟨rfl,_⟩:=d;have E:=U.drop off;rw [Ov] at E;obtain⟨f,v,q,N,Q⟩:=uc D m E h;exact⟨f,v,q,by simpa [Instr.loadAt,Instr.sureAddr] using N,Q⟩
  .simp at h
 .rename_i i sz k off;split at h
  .rename_i fz sz' bb xs F;split at h
   .rename_i C;subst C;replace h:=aO h m;obtain⟨cs,p,h⟩:=h;obtain⟨v,B,J⟩:=ot hs F;simp only [aj] at g;obtain⟨b,o,L,cap,d,rfl⟩:=g;rw [B] at d;simp only [NL] at d;subst d;obtain⟨a',cap',q,N,Q,g4,S⟩:=J;simp only [OO] at q;obtain⟨rfl,rfl,rfl⟩:=q;have V:k < xs.length:=(NQ.1 p).1;rcases S with S | ⟨af,off',arr,W,z,X,Y,Z,y⟩
    .omega
    .simp only [NL,OK] at z;obtain⟨rfl,rfl,_⟩:=z;obtain⟨_,M⟩:=y.get p;obtain⟨f,v,G,H,I⟩:=uc (ρ:=ρ) D m (M.drop off) h;exact⟨f,v,G,by simpa [Instr.loadAt,Instr.sureAddr] using H,I⟩
   .simp at h
  .rename_i bb sz' col rsz nx es F;split at h
   .rename_i C;subst C;replace h:=aO h m;obtain⟨e,p,h⟩:=h;obtain⟨a,cap,B,J,h3,U,E⟩:=hs.af i _ F;simp only [aj] at g;obtain⟨b,o,L,cap',d,rfl⟩:=g;rw [B] at d;simp only [NL,OO] at d;obtain⟨rfl,rfl,rfl⟩:=d;have V:k < es.length:=(NQ.1 p).1;rcases E with E | ⟨af,off',arr,W,z,X,Y,Z,y⟩
    .omega
    .simp only [NL,OK] at z;obtain⟨rfl,rfl,_⟩:=z;obtain⟨f,v,G,H,I⟩:=I9 hs D m (y.get p) h;exact⟨f,v,G,by simpa [Instr.loadAt,Instr.sureAddr] using H,I⟩
   .simp at h
  .simp at h
 .rename_i i sz n k off;replace h:=yc hs m h;obtain⟨rsz,bb,xs,v,h,hv,hsl⟩:=h;split at h
  .rename_i C;subst C;replace h:=aO h m;obtain⟨cs,p,h⟩:=h;simp only [aj] at g;obtain⟨b,o,L,cap,d,rfl⟩:=g;rw [hv] at d;simp only [NL] at d;subst d;obtain⟨a',cap',q,N,Q,g4,S⟩:=hsl;simp only [OO] at q;obtain⟨rfl,rfl,rfl⟩:=q;have V:k < xs.length:=(NQ.1 p).1;rcases S with S | ⟨af,off',arr,W,z,X,Y,Z,y⟩
   .omega
   .simp only [NL,OK] at z;obtain⟨rfl,rfl,_⟩:=z;obtain⟨_,M⟩:=y.get p;obtain⟨f,v,G,H,I⟩:=uc (ρ:=ρ) D m (M.drop off) h;exact⟨f,v,G,by simpa [Instr.loadAt,Instr.sureAddr] using H,I⟩
  .simp at h
 .rename_i x;replace h:=aO h m;obtain⟨cs,p,h⟩:=h;have:=T.uB p;subst this;simp only [aj,ay] at g;obtain⟨af,off,rfl,B,J⟩:=g;obtain⟨f,v,G,H,I⟩:=uc (ρ:=ρ) D m J h;exact⟨f,v,G,by simpa [Instr.loadAt,Instr.sureAddr] using H,I⟩
 .simp at h
theorem wX{t:TypeId}{f:Nat}{p:Nat×TypeId}(h:qI P t f=some p):∃a x,P.underlying t=some (.struct a)/\a[f]? =some x/\p= (x.offset,x.type)/\cb P p.2=true:=by
 unfold qI at h;split at h
 .rename_i a d;split at h
  .rename_i x e;cases b:cb P x.type
   .simp [b] at h
   .simp only [b,cond_true,NL] at h;subst h;exact⟨a,x,d,e,rfl,b⟩
  .simp at h
 .simp at h
theorem tu{t e:TypeId}(h:lE P t=some e):P.underlying t=some (.slice e)/\cb P e=true:=by
 unfold lE at h;split at h
 .rename_i e' b;cases a:cb P e'
  .simp [a] at h
  .simp only [a,cond_true,NL] at h;subst h;exact⟨b,a⟩
 .simp at h
theorem ze{t:TypeId}{p:Nat×TypeId}(h:sQ P t=some p):P.underlying t=some (.array p.1 p.2)/\cb P p.2=true:=by
 unfold sQ at h;split at h
 .rename_i n e' b;cases a:cb P e'
  .simp [a] at h
  .simp only [a,cond_true,NL] at h;subst h;exact⟨b,a⟩
 .simp at h
theorem Ix{R:Type}{t:TypeId}{x:AV}{m:Value}{f:Nat}{K:AV->Option R}{r:R}(a:aj w A ρ x m)(C:cc=none\/cc=some true)(h:ph P cc t x f K=some r):
  ∃i v,K i=some r/\(Instr.fieldAt t m f).run P w= .ok v w/\aj w A ρ i v:=by
 unfold ph at h;split at h
 .rename_i off u D;obtain⟨G,y,q,z,l,B⟩:=wX D;simp only [Ow] at l;obtain⟨rfl,rfl⟩:=l;split at h
  .simp at h
  .rename_i F;have d:∀b o,(Instr.fieldAt t (.pointer (some ⟨b,o,none⟩)) f).run P w= .ok (.pointer (some ⟨b,o+y.offset,none⟩)) w:=by
    intro b o;simp [Instr.fieldAt,run_underlying q,z,Instr.sureAddr,fieldPlace,hF B,F,fK]
   split at h
   .rename_i j o;simp only [aj] at a;obtain⟨b,e,rfl⟩:=a;exact⟨_,_,h,d _ _,by simp only [aj];exact⟨b,e,rfl⟩⟩
   .rename_i j sz k o;simp only [aj] at a;obtain⟨b,g,L,cap,e,rfl⟩:=a;exact⟨_,_,h,d _ _,by simp only [aj];exact⟨b,g,L,cap,e,by rw [PO]⟩⟩
   .rename_i j sz n k o;simp only [aj] at a;obtain⟨b,g,L,cap,e,rfl⟩:=a;exact⟨_,_,h,d _ _,by simp only [aj];exact⟨b,g,L,cap,e,by rw [PO]⟩⟩
   .rename_i H;replace h:=aO h C;obtain⟨cs,E,h⟩:=h;have:=T.uB E;subst this;simp only [aj,ay] at a;obtain⟨af,o,rfl,g1,p⟩:=a;refine⟨_,_,h,d _ _, ?_⟩;simp only [aj,ay];refine⟨af,_,rfl, ?_,p.drop _⟩;rcases g1 with rfl | g1
    .exact .inl (by simp)
    .exact .inr g1
   .simp at h
 .simp at h
theorem mD{R:Type}{i:Int}{n:Nat}{K:Option R}{r:R}(d:cc=none\/cc=some true)(h:iQ cc i n K=some r): 0<=i/\i < n/\K=some r:=by
 unfold iQ at h;replace h:=aO h d;obtain⟨_,a,h⟩:=h;split at a
 .rename_i b;exact⟨b.1,b.2,h⟩
 .simp at a
theorem IQ{R:Type}{t:TypeId}{x:AV}{vx:Value}{i:Int}{ki:IntKind}{K:AV->Option R}{r:R}(hs:HS c w s.h ρ O)(d:aj w (AA c w O) ρ x vx)(q:cc=none\/cc=some true)(h:iv P s cc t x i K=some r):
  ∃V v,K V=some r/\(Instr.indexAt t vx (.int ki i)).run P w= .ok v w/\aj w (AA c w O) ρ V v:=by
 unfold iv at h;split at h
 .rename_i e J;obtain⟨M,F⟩:=tu J;have g:∀b o len cap,0<=i->i < (len:Nat)->(Instr.indexAt t (.slice (some ⟨b,o,none⟩) len cap) (.int ki i)).run P w= .ok (.pointer (some ⟨b,o+i.toNat * P.cellsOf e,none⟩)) w:=by
   intro b o len cap h0 f;simp [Instr.indexAt,asIntOf,run_underlying M,h0,f,hF F,fK]
  split at h
  .rename_i j;split at h
   .rename_i fz sz bb xs D;split at h
    .rename_i m;subst m;obtain⟨h0,f,h⟩:=mD q h;obtain⟨v,g1,l⟩:=ot hs D;simp only [aj] at d;rw [g1] at d;simp only [NL] at d;subst d;obtain⟨I,cap',C,q2,q3,q4,u⟩:=l;rcases u with u | ⟨af,off',arr,U,B,N,Q,S,G⟩
     .omega
     .subst B;subst C;exact⟨_,_,h,g _ _ _ _ h0 f,by simp only [aj];exact⟨af,off',_,_,g1,by simp⟩⟩
    .simp at h
   .rename_i bb sz col rsz nx es D;split at h
    .rename_i m;subst m;obtain⟨h0,f,h⟩:=mD q h;obtain⟨a,cap,g1,l,W,g4,H⟩:=hs.af j _ D;simp only [aj] at d;rw [g1] at d;simp only [NL] at d;subst d;rcases H with H | ⟨af,off',arr,U,B,N,Q,S,G⟩
     .omega
     .subst B;exact⟨_,_,h,g _ _ _ _ h0 f,by simp only [aj];exact⟨af,off',_,_,g1,by simp⟩⟩
    .simp at h
   .simp at h
  .rename_i j n;replace h:=yc hs q h;obtain⟨rsz,bb,xs,v,h,Z,Y⟩:=h;split at h
   .rename_i m;subst m;obtain⟨h0,f,h⟩:=mD q h;simp only [aj] at d;rw [Z] at d;simp only [NL] at d;subst d;obtain⟨I,cap',C,q2,q3,q4,u⟩:=Y;rcases u with u | ⟨af,off',arr,U,B,N,Q,S,G⟩
    .omega
    .subst B;subst C;exact⟨_,_,h,g _ _ _ _ h0 f,by simp only [aj];exact⟨af,off',_,_,Z,by simp⟩⟩
   .simp at h
  .rename_i j sz off n;split at h
   .rename_i fz sz' bb xs D;split at h
    .rename_i m;obtain⟨rfl,rfl⟩:=m;obtain⟨h0,f,h⟩:=mD q h;obtain⟨v,g1,l⟩:=ot hs D;simp only [aj] at d;obtain⟨a,L,cap,I,z,e2,e3,rfl,e4⟩:=d;rw [g1] at z;simp only [NL] at z;subst z;obtain⟨a'',cap'',C,q2,q3,q4,u⟩:=l;simp only [OO] at C;obtain⟨rfl,rfl,rfl⟩:=C;rcases u with u | ⟨af,off',arr,U,B,N,Q,S,G⟩
     .omega
     .subst B;have ea:I=some ⟨af,off'+off * P.cellsOf e,none⟩:=by
       rcases e4 with⟨rfl,rfl⟩ | ⟨rfl,_⟩ | ⟨b,o,e5,e6⟩
       .simp
       .omega
       .simp only [NL,OK] at e5;obtain⟨rfl,rfl,_⟩:=e5;exact e6
      subst ea;refine⟨_,_,h,g _ _ _ _ h0 f, ?_⟩;simp only [aj];exact⟨af,off',_,_,g1,by congr 3;rw [PH];omega⟩
    .simp at h
   .simp at h
  .rename_i y;replace h:=aO h q;obtain⟨p,hp,h⟩:=h;obtain⟨h0,f,h⟩:=mD q h;replace h:=aO h q;obtain⟨cs,E,h⟩:=h;rcases T.nZ hp with rfl | ⟨rfl,X⟩
   .simp only [aj,ay] at d;rcases d with⟨_,e,_⟩ | ⟨_,af,off,sp,cap,rfl,g1,l,W⟩
    .rw [e] at f;simp at f;omega
    .rcases l with l | ⟨rfl,l⟩
     .rw [l] at E;simp at E
     refine⟨_,_,h,g _ _ _ _ h0 f, ?_⟩;obtain⟨g4,H⟩:=W.get E;simp only [aj,ay];exact⟨af,_,rfl, .inr l,H⟩
   .rw [X] at f;simp at f;omega
  .simp at h
 .split at h
  .rename_i n e J;obtain⟨M,F⟩:=ze J;obtain⟨h0,f,h⟩:=mD q h;have g:∀b o,(Instr.indexAt t (.pointer (some ⟨b,o,none⟩)) (.int ki i)).run P w= .ok (.pointer (some ⟨b,o+i.toNat * P.cellsOf e,none⟩)) w:=by
    intro b o;simp [Instr.indexAt,asIntOf,run_underlying M,Instr.sureAddr,h0,f,hF F,fK]
   split at h
   .rename_i j off;simp only [aj] at d;obtain⟨b,z,rfl⟩:=d;exact⟨_,_,h,g _ _,by simp only [aj];exact⟨b,z,rfl⟩⟩
   .rename_i j sz k off;simp only [aj] at d;obtain⟨b,o',L,cap,z,rfl⟩:=d;exact⟨_,_,h,g _ _,by simp only [aj];exact⟨b,o',L,cap,z,by rw [PO]⟩⟩
   .rename_i y;replace h:=aO h q;obtain⟨cs,E,h⟩:=h;have:=T.uB E;subst this;simp only [aj,ay] at d;obtain⟨af,o,rfl,g1,l⟩:=d;refine⟨_,_,h,g _ _, ?_⟩;simp only [aj,ay];refine⟨af,_,rfl, ?_,l.drop _⟩;rcases g1 with rfl | g1
    .exact .inl (by simp)
    .exact .inr g1
   .simp at h
  .simp at h
end
open Go Go.IntKind
section
variable {P:Program} {w w':World} {A A':Nat->Prop} {c:Ctx} {ρ:Id->Option Value} {O:Id->Option Nat} {s:St} {cc:Option Bool}
theorem I1{R:Type}{t ty:TypeId}{ts:Array TypeId}{x:AV}{B:Value}{K:AV->Option R}{r:R}(hs:HS c w s.h ρ O)(d:aj w (AA c w O) ρ x B)(l:cc=none\/cc=some true)(h:lO P s cc t x K=some r)
  (g:ts[0]? =some t):∃u v,K u=some r/\(Builtin.len_ ts ty #[B]).run P w= .ok v w/\aj w (AA c w O) ρ u v:=by
 unfold lO at h;split at h
 .rename_i i;split at h
  .rename_i y;replace h:=aO h l;obtain⟨b,C,h⟩:=h;have:=T.ja C;subst this;simp only [aj,ay] at d;subst d;exact⟨_,_,h,by simp [Builtin.len_,g,run_underlying i];rfl,by simp only [aj];exact fp _ _ _ _⟩
  .simp at h
 .rename_i n e i;exact⟨_,_,h,by simp [Builtin.len_,g,run_underlying i];rfl,by simp only [aj];exact fp _ _ _ _⟩
 .rename_i e i;have f:∀a n cap,(Builtin.len_ ts ty #[.slice a n cap]).run P w= .ok (goInt n) w:=by
   intro a n cap;simp [Builtin.len_,g,run_underlying i]
  split at h
  .rename_i j;split at h
   .rename_i fz sz bb xs m;obtain⟨v,k,q,cap',o,M,N,Q,S⟩:=ot hs m;simp only [aj] at d;rw [k] at d;simp only [NL] at d;subst d;subst o;exact⟨_,_,h,f _ _ _,by simp only [aj];exact fp _ _ _ _⟩
   .rename_i bb sz col rsz J es m;obtain⟨a,cap,k,_⟩:=hs.af j _ m;simp only [aj] at d;rw [k] at d;simp only [NL] at d;subst d;exact⟨_,_,h,f _ _ _,by simp only [aj];exact fp _ _ _ _⟩
   .simp at h
  .rename_i j n;replace h:=yc hs l h;obtain⟨rsz,bb,xs,v,h,E,q,cap',o,_⟩:=h;simp only [aj] at d;rw [E] at d;simp only [NL] at d;subst d;subst o;exact⟨_,_,h,f _ _ _,by simp only [aj];exact fp _ _ _ _⟩
  .rename_i j sz off n;simp only [aj] at d;obtain⟨a,L,cap,q,F,G,e3,rfl,e4⟩:=d;exact⟨_,_,h,f _ _ _,by simp only [aj];exact fp _ _ _ _⟩
  .rename_i y;replace h:=aO h l;obtain⟨p,D,h⟩:=h;rcases T.nZ D with rfl | ⟨rfl,z⟩
   .simp only [aj,ay] at d;rcases d with⟨_,e,rfl⟩ | ⟨_,af,off,sp,cap,rfl,k,H,I⟩
    .refine⟨_,_,h,f _ _ _, ?_⟩;simp only [aj,e];exact fp _ _ _ _
    .exact⟨_,_,h,f _ _ _,by simp only [aj];exact fp _ _ _ _⟩
   .simp only [aj,ay] at d;rw [z] at h;rcases d with⟨_,rfl⟩ | ⟨_,af,off,sp,rfl⟩ <;> exact⟨_,_,h,f _ _ _,by simp only [aj];exact fp _ _ _ _⟩
  .simp at h
 .simp at h
theorem vB{x:T}{n:Int}(h:gS.anyInt x=some n):∃k,x= .int k n:=by cases x <;> simp_all [gS.anyInt]
def hZ(b:Option Int)(v:Option Value):Prop:=match b,v with
 | none,none=>True
 | some n,some (.int _ m)=>m=n
 | _,_=>False
theorem vH{R:Type}{a:Act}{g:Option Gs}{o:Option Operand}{K:Option Int->Option R}{r:R}(j:SS w A ρ s.t a.tmps)(i:je a.tmps g)(e:cc=none\/cc=some true)(h:gS s cc g o K=some r):
  ∃b,K b=some r/\hZ b (o.map a.eval):=by
 unfold gS at h;split at h
 .exact⟨none,h,trivial⟩
 .rename_i o;cases d:(s.get g o).t? with
  | none=>simp [d] at h
  | some x=>simp only [d,NO] at h;replace h:=aO h e;obtain⟨n,f,h⟩:=h;obtain⟨k,rfl⟩:=vB f;have:=SS.get (h:=s.h) j i o;rw [show(⟨s.t,s.h⟩:St)=s from rfl,AV.jX d] at this;simp only [aj,ay] at this;exact⟨some n,h,by simp [hZ,this]⟩
theorem tN{b a n:Int}(h:eO b a n=some ()): 0<=b/\b<=a/\a<=n:=by
 unfold eO at h;split at h
 .assumption
 .simp at h
theorem sd{v:Option Value}(h:hZ none v):v=none:=by cases v <;> simp_all [hZ]
theorem oF{n:Int}{v:Option Value}(h:hZ (some n) v):∃k,v=some (.int k n):=by
 cases v with
 | none=>simp [hZ] at h
 | some v=>cases v <;> simp_all [hZ]
theorem pR(k:IntKind)(n:Int)(y:Nat)(a:BoundsCode)(h0: 0<=n)(b:n<=y):(Instr.sliceBound (.int k n) y a).run P w= .ok n.toNat w:=run_sliceBound w k n y a h0 b
theorem DU(p:Bool){b f:Option Int}{j i:Option Value}{len cap:Nat}(hl:hZ b j)(o:hZ f i)(g: 0<=b.getD 0)(d:b.getD 0<=f.getD len)(l:f.getD len<=cap):
  (Instr.sliceBounds p len cap j i none).run P w= .ok ((b.getD 0).toNat,(f.getD len).toNat,cap) w:=by
 cases f with
 | none=>
  have:=sd o;subst this;simp only [QC] at d l⊢;cases b with
  | none=>have:=sd hl;subst this;simp [Instr.sliceBounds]
  | some n=>obtain⟨k,rfl⟩:=oF hl;simp only [PE] at g d⊢;have e:=pR (P:=P) (w:=w) k n len .sliceB g d;simp [Instr.sliceBounds,e]
 | some m=>
  obtain⟨q,rfl⟩:=oF o;simp only [PE] at d l⊢;have e':∀a,(Instr.sliceBound (.int q m) cap a).run P w= .ok m.toNat w:=λa=>pR q m cap a (by omega) l;cases b with
  | none=>have:=sd hl;subst this;simp [Instr.sliceBounds,e']
  | some n=>obtain⟨k,rfl⟩:=oF hl;simp only [PE] at g d⊢;have e:=pR (P:=P) (w:=w) k n m.toNat .sliceB g (by omega);simp [Instr.sliceBounds,e,e']
theorem MZ{R:Type}{t:TypeId}{x:AV}{vx:Value}{g C mx:Option Int}{V U F:Option Value}{K:AV->Option R}{r:R}(hs:HS c w s.h ρ O)(q:aj w (AA c w O) ρ x vx)(M:cc=none\/cc=some true)
  (hl:hZ g V) (hh:hZ C U) (hm:hZ mx F) (h:l6 P s cc t x g C mx K=some r):
  ∃av v,K av=some r/\(Instr.sliceAt t vx V U F).run P w= .ok v w/\aj w (AA c w O) ρ av v:=by
 unfold l6 at h;split at h
 .rename_i hu;split at h
  .rename_i y;replace h:=aO h M;obtain⟨b,J,h⟩:=h;have:=T.ja J;subst this;simp only [aj,ay] at q;subst q;replace h:=aO h M;obtain⟨_,J,h⟩:=h;obtain⟨D,l,B⟩:=tN J;have hvm:F=none:=by cases F with | none=>rfl | some v=>simp [hZ] at hm
   subst hvm;refine⟨_,_,h, ?_,by simp only [aj];exact jQ _ _ _⟩;have:=DU (P:=P) (w:=w) false (len:=b.size) (cap:=b.size) hl hh D l B;simp [Instr.sliceAt,Instr.slice,run_underlying hu,this]
  .simp at h
 .rename_i e hu;split at h
  .have hvm:F=none:=by cases F with | none=>rfl | some v=>simp [hZ] at hm
   subst hvm
   have z:cb P e=true->∀(a:Option Addr) (len cap:Nat),0<=g.getD 0->g.getD 0<=C.getD len->C.getD len<=cap->
     (Instr.sliceAt t (.slice a len cap) V U none).run P w= .ok (.slice (if cap= (g.getD 0).toNat then a else a.map (·.add ((g.getD 0).toNat * P.cellsOf e))) ((C.getD len).toNat - (g.getD 0).toNat) (cap - (g.getD 0).toNat)) w:=by
    intro f a len cap D l B;have:=DU (P:=P) (w:=w) true hl hh D l B;simp [Instr.sliceAt,Instr.slice,run_underlying hu,this,hF f]
   split at h
   .rename_i j;split at h
    .rename_i fz sz bb xs hj;split at h
     .rename_i Q;obtain⟨Q,f⟩:=Q;subst Q;replace h:=aO h M;obtain⟨_,J,h⟩:=h;obtain⟨D,l,B⟩:=tN J;obtain⟨v,H,G,cap',W,q2,q3,q4,X⟩:=ot hs hj;simp only [aj] at q;rw [H] at q;simp only [NL] at q;subst q;subst W;refine⟨_,_,h,z f _ _ _ D l (by omega), ?_⟩;simp only [aj];refine⟨G,_,cap',_,H,by omega,q2,rfl, ?_⟩;by_cases e0:(g.getD 0).toNat=0
      .left;refine⟨e0, ?_⟩;rw [e0];split
       .rfl
       .cases G <;> simp [Addr.add]
      .by_cases i:cap'= (g.getD 0).toNat
       .right;left;rw [if_pos i];exact⟨i.symm,P4,q4⟩
       .right;right;rw [if_neg i];rcases X with X | ⟨af,off',arr,t',q6,_⟩
        .omega
        .subst q6;exact⟨af,off',rfl,by simp [fK]⟩
     .simp at h
    .simp at h
   .rename_i j sz off n;split at h
    .rename_i fz sz' bb xs hj;split at h
     .rename_i Q;obtain⟨rfl,rfl,f⟩:=Q;replace h:=aO h M;obtain⟨_,J,h⟩:=h;obtain⟨D,l,B⟩:=tN J;simp only [aj] at q;obtain⟨a,L,cap,G,i,e2,e3,rfl,e4⟩:=q;obtain⟨v,H,a'',cap'',W,q2,q3,q4,X⟩:=ot hs hj;rw [H] at i;simp only [NL] at i;subst i;simp only [OO] at W;obtain⟨rfl,rfl,rfl⟩:=W;refine⟨_,_,h,z f _ _ _ D l (by omega), ?_⟩;simp only [aj];refine⟨a,_,cap,_,H,by omega,e3,by congr 1;omega, ?_⟩;by_cases e0:(g.getD 0).toNat=0
      .have:(if cap - off= (g.getD 0).toNat then G else G.map (·.add ((g.getD 0).toNat * P.cellsOf e)))=G:=by
        rw [e0];split
        .rfl
        .cases G <;> simp [Addr.add]
       rw [this,e0,PV];exact e4
      .by_cases e5:cap - off= (g.getD 0).toNat
       .right;left;rw [if_pos e5];refine⟨by omega, ?_, ?_⟩
        .rcases e4 with⟨_,rfl⟩ | ⟨_,E,_⟩ | ⟨b,o,rfl,rfl⟩
         .exact P4
         .exact E
         .simp
        .trivial
       .right;right;rw [if_neg e5];rcases X with X | ⟨af,off',arr,t',q6,_⟩
        .omega
        .subst q6;rcases e4 with⟨e7,rfl⟩ | ⟨e7,_⟩ | ⟨b,o,E,rfl⟩
         .subst e7;exact⟨af,off',rfl,by simp [fK]⟩
         .omega
         .exact⟨b,o,E,by simp [fK,PH,PO]⟩
     .simp at h
    .simp at h
   .rename_i y;split at h
    .rename_i f;replace h:=aO h M;obtain⟨p,hp,h⟩:=h;replace h:=aO h M;obtain⟨_,J,h⟩:=h;obtain⟨D,l,B⟩:=tN J;rcases T.nZ hp with rfl | ⟨rfl,hp2⟩
     .simp only [aj,ay] at q;rcases q with⟨i,e,rfl⟩ | ⟨i,af,off,sp,cap,rfl,H,I,g3⟩
      .rw [e] at l B h;refine⟨_,_,h,z f _ _ _ (by simpa using D) (by simpa using l) (by simpa using B), ?_⟩;simp only [N7,On] at l B;have e5:(g.getD 0).toNat=0:=by omega
       have E:(C.getD ((0:Nat):Int)).toNat=0:=by
        have:C.getD ((0:Nat):Int)=C.getD 0:=by simp
        rw [this];omega
       simp only [aj,ay,sub,List.drop_nil,List.take_nil];left;refine⟨i,trivial, ?_⟩;rw [E];simp
      .refine⟨_,_,h,z f _ _ _ D l (by omega), ?_⟩;simp only [aj,ay];right;refine⟨i, ?_⟩;by_cases e5:cap= (g.getD 0).toNat
       .rw [if_pos e5];have E:(C.getD ((p.2.length:Nat):Int)).toNat - (g.getD 0).toNat=0:=by omega
        refine⟨af,off,sp,cap - (g.getD 0).toNat, ?_, ?_, .inl ?_, ?_⟩
        .simp only [sub,E,QI,N7]
        .simp only [sub,E,QI,N7];omega
        .simp [sub,E]
        .simp [sub,E,bf]
       .rw [if_neg e5];have N:(sub (g.getD 0) (C.getD ((p.2.length:Nat):Int)) p.2).length= (C.getD ((p.2.length:Nat):Int)).toNat - (g.getD 0).toNat:=by
         simp only [sub,OG,ON];omega
        rcases I with I | ⟨I,g4⟩
        .have e7:(g.getD 0).toNat=0:=by rw [I] at B;simp only [N7] at B;rw [I] at l;simp only [N7] at l;omega
         refine⟨af,off,sp,cap - (g.getD 0).toNat, ?_, ?_, .inl (by simp [sub,I]),by simp [sub,I,bf]⟩
         .rw [N,e7];simp [Addr.add]
         .rw [N];omega
        .subst I;refine⟨af,off+ (g.getD 0).toNat * P.cellsOf e,none,cap - (g.getD 0).toNat, ?_, ?_, .inr ⟨rfl,g4⟩, ?_⟩
         .rw [N];simp only [Po,fK]
         .rw [N];omega
         .exact(g3.drop _).take _
     .rw [hp2] at l B h;simp only [aj,ay] at q;simp only [N7,On] at l B;have e5:(g.getD 0).toNat=0:=by omega
      have E:(C.getD ((0:Nat):Int)).toNat=0:=by
       have:C.getD ((0:Nat):Int)=C.getD 0:=by simp
       rw [this];omega
      rcases q with⟨i,rfl⟩ | ⟨i,af,off,sp,rfl⟩
      .refine⟨_,_,h,z f _ _ _ (by simpa using D) (by simpa using l) (by simpa using B), ?_⟩;simp only [aj,ay,sub,List.drop_nil,List.take_nil];left;refine⟨i,trivial, ?_⟩;rw [E];simp
      .refine⟨_,_,h,z f _ _ _ (by simpa using D) (by simpa using l) (by simpa using B), ?_⟩;simp only [aj,ay,sub,List.drop_nil,List.take_nil,bf];right;refine⟨i,af,off,sp,0, ?_,by simp, .inl trivial,trivial⟩;rw [e5,E];simp
    .simp at h
   .simp at h
  .rename_i m;obtain⟨km,rfl⟩:=oF hm
   have z:cb P e=true->g.getD 0=0->C.getD 1=0->m=0->∀(a:Option Addr) (len cap:Nat),
     (Instr.sliceAt t (.slice a len cap) V U (some (.int km m))).run P w= .ok (.slice a 0 0) w:=by
    intro f D l B a len cap;cases C with
    | none=>simp at l
    | some hn=>
     obtain⟨kh,rfl⟩:=oF hh;simp only [PE] at l;subst l;subst B;have i:∀k,(Instr.sliceBound (.int km 0) cap k).run P w= .ok 0 w:=λk=>pR km 0 cap k (by omega) (by omega);have e2:∀k,(Instr.sliceBound (.int kh 0) 0 k).run P w= .ok 0 w:=λk=>pR kh 0 0 k (by omega) (by omega);cases g with
     | none=>have:=sd hl;subst this;simp [Instr.sliceAt,Instr.slice,run_underlying hu,Instr.sliceBounds,i,e2,hF f]
     | some ln=>obtain⟨kl,rfl⟩:=oF hl;simp only [PE] at D;subst D;have e3:∀k,(Instr.sliceBound (.int kl 0) 0 k).run P w= .ok 0 w:=λk=>pR kl 0 0 k (by omega) (by omega);simp [Instr.sliceAt,Instr.slice,run_underlying hu,Instr.sliceBounds,i,e2,e3,hF f]
   have zs:∀{a b d:Int} {u:Unit},vl a b d=some u->a=0/\b=0/\d=0:=by
    intro a b d u S;unfold vl at S;split at S
    .assumption
    .simp at S
   split at h
   .rename_i y;split at h
    .rename_i f;replace h:=aO h M;obtain⟨p,hp,h⟩:=h;replace h:=aO h M;obtain⟨_,S,h⟩:=h;obtain⟨Y,Z,z3⟩:=zs S;rcases T.nZ hp with rfl | ⟨rfl,hp2⟩
     .simp only [aj,ay] at q;rcases q with⟨i,e,rfl⟩ | ⟨i,af,off,sp,cap,rfl,H,I,g3⟩
      .exact⟨_,_,h,z f Y Z z3 _ _ _,by simp only [aj,ay];exact .inl ⟨i,trivial⟩⟩
      .exact⟨_,_,h,z f Y Z z3 _ _ _,by simp only [aj,ay];exact .inr ⟨i,af,off,sp,rfl⟩⟩
     .simp only [aj,ay] at q;rcases q with⟨i,rfl⟩ | ⟨i,af,off,sp,rfl⟩
      .exact⟨_,_,h,z f Y Z z3 _ _ _,by simp only [aj,ay];exact .inl ⟨i,trivial⟩⟩
      .exact⟨_,_,h,z f Y Z z3 _ _ _,by simp only [aj,ay];exact .inr ⟨i,af,off,sp,rfl⟩⟩
    .simp at h
   .rename_i j;split at h
    .rename_i fz sz bb xs hj;split at h
     .simp at h
     .rename_i f;simp only [Bool.not_eq_false] at f;replace h:=aO h M;obtain⟨_,S,h⟩:=h;obtain⟨Y,Z,z3⟩:=zs S;obtain⟨v,H,G,cap',W,q2,q3,q4,X⟩:=ot hs hj;simp only [aj] at q;rw [H] at q;simp only [NL] at q;subst q;subst W;refine⟨_,_,h,z f Y Z z3 _ _ _, ?_⟩;simp only [aj,ay];cases bb
      .right;cases G with
       | none=>simp at q3
       | some x=>obtain⟨b,o,sp⟩:=x;exact⟨rfl,b,o,sp,rfl⟩
      .left;exact⟨rfl,by rw [q3.2 rfl]⟩
    .simp at h
   .simp at h
 .simp at h
end
open Go Go.IntKind
section
variable {P:Program} {w w':World} {A A':Nat->Prop} {c:Ctx} {ρ:Id->Option Value} {O:Id->Option Nat} {s:St} {cc:Option Bool} {h:Id->Option ad}
def pJ(v:AV)(i:Id):Prop:=v= .own i\/(∃sz off n,v= .part i sz off n)\/∃off,v= .ref i off
theorem l5{i:Id}{fz b:Bool}{sz:Nat}{l:List (List T)}(hs:HS c w h ρ O)(e:h i=some (.sl fz sz b l)):∃v,ρ i=some v/\cJ w (AA c w O) sz b l v (λaf=>if fz=true then AA c w O af else O i=some af):=by obtain⟨v,a,d,_⟩:=hs.af i _ e;exact⟨v,a,d⟩
theorem kW{v:AV}{x:T}{u:Value}(hs:HS c w h ρ O)(e:aj w (AA c w O) ρ v u)(d:dr h v=some x)
  (m:∀b,AA c w O b->A' b) (R:∀i af,pJ v i->O i=some af->A' af):ay w A' x u:=by
 have mono:∀(t:T) (v:Value),ay w (AA c w O) t v->ay w A' t v:=λt v hr=>ay.mono (λb p=>⟨m b p,rfl⟩) t v hr;cases v <;> simp only [dr,reduceCtorEq,NL] at d
 case t y=>subst d;simp only [aj] at e;exact mono _ _ e
 case own i=>
  split at d
  .rename_i fz sz b xs q;simp only [NL] at d;subst d;obtain⟨v',M,a,cap,G,V,D,q4,f⟩:=l5 hs q;simp only [aj] at e;rw [M] at e;simp only [NL] at e;subst e;subst G;simp only [ay];cases b with
   | true=>
    left;have:a=none:=D.2 rfl;subst this;rcases f with f | ⟨af,off,arr,t,z,_⟩
    .have:xs= []:=Oc.1 (by omega);subst this;subst f;exact⟨rfl,rfl,rfl⟩
    .cases z
   | false=>
    right;refine⟨rfl, ?_⟩;rcases f with f | ⟨af,off,arr,t,z,E,q8,q9,C⟩
    .have:xs= []:=Oc.1 (by omega);subst this;cases a with
     | none=>simp at D
     | some y=>obtain⟨J,o,sp⟩:=y;exact⟨J,o,sp,cap,rfl,V, .inl rfl,by simp [bf]⟩
    .subst z;refine⟨af,off,_,cap,rfl,V, .inr ⟨rfl, ?_⟩,bf.lQ (λb p=>⟨m b p,rfl⟩) af sz rfl off xs C⟩;cases fz
     .exact R i af (.inl rfl) (by simpa using E)
     .exact m _ (by simpa using E)
  .simp at d
 case part i sz off n=>
  split at d
  .rename_i fz H b xs q;split at d
   .rename_i Y;subst Y;simp only [NL] at d;subst d;obtain⟨v',M,a,cap,G,V,D,q4,f⟩:=l5 hs q;simp only [aj] at e;obtain⟨W,L,Z,I,g,e2,e3,rfl,e4⟩:=e;rw [M] at g;simp only [NL] at g;subst g;simp only [OO] at G;obtain⟨rfl,rfl,rfl⟩:=G;have U:((xs.drop off).take n).length=n:=by simp only [OG,ON];omega
    simp only [ay,U];have k:I=none↔W=none:=by
     rcases e4 with⟨_,rfl⟩ | ⟨_,e5,_⟩ | ⟨X,o,rfl,rfl⟩
     .exact P4
     .exact e5
     .simp
    cases b with
    | true=>
     left;have e5:W=none:=D.2 rfl;subst e5;rcases f with f | ⟨af,off',arr,t,z,_⟩
     .have K:xs= []:=Oc.1 (by omega);subst K;subst f;simp only [N7] at e2;have e7:n=0:=by omega
      subst e7;rw [k.2 rfl];exact⟨rfl,by simp,by congr 1;omega⟩
     .cases z
    | false=>
     right;refine⟨rfl, ?_⟩;by_cases hn:n=0
     .subst hn;cases I with
      | none=>have:=k.1 rfl;simp [this] at D
      | some y=>obtain⟨J,o,sp⟩:=y;exact⟨J,o,sp,_,rfl,by omega, .inl (by simp),by simp [bf]⟩
     .rcases f with f | ⟨af,off',arr,t,z,E,q8,q9,C⟩
      .omega
      .subst z;have ea:I=some ⟨af,off'+off * H,none⟩:=by
        rcases e4 with⟨rfl,rfl⟩ | ⟨rfl,_⟩ | ⟨X,o,e5,K⟩
        .simp
        .omega
        .simp only [NL,OK] at e5;obtain⟨rfl,rfl,_⟩:=e5;exact K
       subst ea;refine⟨af,_,_,_,rfl,by omega, .inr ⟨rfl, ?_⟩,(bf.lQ (λb p=>⟨m b p,rfl⟩) af H rfl off' xs C).drop off |>.take n⟩;cases fz
       .exact R i af (.inr (.inl ⟨_,_,_,rfl⟩)) (by simpa using E)
       .exact m _ (by simpa using E)
   .simp at d
  .simp at d
 case ref i off=>
  simp only [aj] at e;obtain⟨X,g,rfl⟩:=e;split at d
  .rename_i cs q;obtain⟨l,hl,d⟩:=NM.1 d;simp only [NL] at d;subst d;obtain⟨b,arr,t',B,F,N,Q,h5,h6⟩:=vI (s:=⟨λ_=>(none, .top),h⟩) hs q;rw [B] at g;simp only [NL,Pj,OK] at g;obtain⟨rfl,_⟩:=g;simp only [ay];refine⟨b,off,rfl, .inr (R i b (.inr (.inr ⟨_,rfl⟩)) F), ?_⟩;have hT:=aU.jr hl Q;have key:∀(l:List T) (vs:List Value) (off:Nat),aU w (AA c w O) l vs->(∀j v,vs[j]? =some v->w.cell? ⟨b,off+j,none⟩=some v)->bd w A' b off l:=by
    intro l;induction l with
    | nil=>intro vs off _ _;simp [bd]
    | cons x l ih=>rintro vs off ⟨v,r,rfl,B,F⟩ e;simp only [bd];refine⟨⟨v,by simpa using e 0 v rfl,mono _ _ B⟩,ih r (off+1) F λj u S=> ?_⟩;have:=e (j+1) u (by simpa using S);rw [show off+1+j=off+ (j+1) by omega];exact this
   have:=(key l _ 0 hT λj v S=>by rw [Ov];exact h6 j v S).drop off;rwa [Ov] at this
  .rename_i l q;simp only [NL] at d;subst d;obtain⟨b,B,F,N,Q⟩:=hs.af i _ q;rw [B] at g;simp only [NL,Pj,OK] at g;obtain⟨rfl,_⟩:=g;simp only [ay];refine⟨b,off,rfl, .inr (m b N), ?_⟩;have:=(bd.mono (λb p=>⟨m b p,rfl⟩) b N 0 l Q).drop off;rwa [Ov] at this
  .simp at d
def Dt(v:AV)(i:Id):Prop:=pJ v i\/∃vs,v= .agg vs/\∃u∈vs,pJ u i
theorem Eh(hs:HS c w h ρ O)(j:∀b,AA c w O b->A' b):∀{vs:List AV} {xs:List T} {us:List Value},az w (AA c w O) ρ vs us->jx h vs=some xs->
  (∀i af,(∃u∈vs,pJ u i)->O i=some af->A' af)->aU w A' xs us
 | [],xs,us,e,a,_=>by simp only [jx,NL] at a;subst a;simpa [az,aU] using e
 | v::vs,xs,us,e,a,k=>by
  simp only [jx] at a;cases d:dr h v with
  | none=>simp [d] at a
  | some x=>
   cases f:jx h vs with
   | none=>simp [d,f] at a
   | some l=>simp only [d,f,NO,NL] at a;subst a;simp only [az] at e;obtain⟨u,r,rfl,m,n⟩:=e;exact⟨u,r,rfl,kW hs m d j (λi af g=>k i af ⟨v,NN,g⟩),Eh hs j n f (λi af ⟨u,o,g⟩=>k i af ⟨u,NP _ o,g⟩)⟩
theorem M3{v:AV}{x:T}{u:Value}(hs:HS c w h ρ O)(b:aj w (AA c w O) ρ v u)(a:dr h v=some x):u.oneCell'=true/\u.cells= #[u]:=
 (kW (A':=λ_=>True) hs b a (λ_ _=>trivial) (λ_ _ _ _=>trivial)).n9
theorem M4{v:AV}{xs:List T}{u:Value}(hs:HS c w h ρ O)(d:aj w (AA c w O) ρ v u)(a:jw h v=some xs)(k:∀b,AA c w O b->A' b)
  (l:∀i af,Dt v i->O i=some af->A' af):aU w A' xs u.cells.toList/\∀y∈u.cells.toList,y.oneCell'=true/\y.cells= #[y]:=by
 have one:∀x,dr h v=some x->xs= [x]->aU w A' xs u.cells.toList/\∀y∈u.cells.toList,y.oneCell'=true/\y.cells= #[y]:=by intro x e f;subst f;have p:=kW hs d e k (λi af g=>l i af (.inl g));have j:=M3 hs d e;rw [j.2];exact⟨⟨u,[],rfl,p,rfl⟩,by intro y m;simp at m;subst m;exact j⟩
 cases v
 case agg vs=>simp only [jw] at a;simp only [aj] at d;obtain⟨q,rfl,n,o⟩:=d;refine⟨?_,by simpa [Value.cells] using o⟩;have:=Eh hs k n a (λi af g=>l i af (.inr ⟨vs,rfl,g⟩));simpa [Value.cells] using this
 all_goals
  unfold jw at a;obtain⟨x,e,f⟩:=NM.1 a;exact one x e (Option.some.inj f).symm
def oB(p:Id×ad)(x:Option ad):Prop:=(∃sz b xs,p.2= .sl true sz b xs/\(x=some (.sl false sz b xs)\/x=some (.sl true sz b xs)))\/
 ∃l,p.2= .eE l/\((∃cs,x=some (.box cs)/\dJ cs=some l)\/x=some (.eE l))
def fu(h:Id->Option ad)(us:aB):Prop:= ∀p∈us,oB p (h p.1)
theorem oB.again{i:Id}{b j:ad}{x:Option ad}(p:oB (i,b) x)(n:oB (i,j) x):j=b/\oB (i,j) (some b):=by
 rcases p with⟨sz,bb,xs,d,g1⟩ | ⟨l,d,g1⟩
 .rcases n with⟨f,e,g,a,g2⟩ | ⟨o,a,g2⟩
  .simp only at d a;have:f=sz/\e=bb/\g=xs:=by
    rcases g1 with rfl | rfl <;> rcases g2 with g2 | g2 <;> simp at g2 <;> simp [g2]
   obtain⟨rfl,rfl,rfl⟩:=this;exact⟨by rw [d,a], .inl ⟨_,_,_,a, .inr (by rw [d])⟩⟩
  .rcases g1 with rfl | rfl <;> rcases g2 with⟨cs,g2,_⟩ | g2 <;> simp at g2
 .rcases n with⟨f,e,g,a,g2⟩ | ⟨o,a,g2⟩
  .rcases g2 with rfl | rfl <;> rcases g1 with⟨cs,g1,_⟩ | g1 <;> simp at g1
  .simp only at d a;have:o=l:=by
    rcases g1 with⟨cs,rfl,g1⟩ | rfl
    .rcases g2 with⟨m,g2,k⟩ | g2
     .simp only [NL,ad.box.injEq] at g2;subst g2;rw [g1] at k;simpa using k.symm
     .simp at g2
    .rcases g2 with⟨m,g2,k⟩ | g2
     .simp at g2
     .simpa using g2.symm
   subst this;exact⟨by rw [d,a], .inr ⟨_,a, .inr (by rw [d])⟩⟩
theorem HS.shut(hs:HS c w h ρ O){i:Id}{b:ad}(m:oB (i,b) (h i)):
  ∃a,Le w ρ O w ρ a/\HS c w (aH h i (some b)) ρ a/\(∀j,a j=O j\/a j=none)/\a i=none/\∀j,j≠i->a j=O j:=by
 have k:∀(f:Id->Option ad) (v:Option ad),f i=v->aH f i v=f:=by
  intro f v h;funext j;unfold aH;split
  .rename_i e;rw [e,h]
  .rfl
 have rel:∀{x:Option ad},HS c w (aH h i x) ρ (aH O i none)->∃a,Le w ρ O w ρ a/\HS c w (aH h i x) ρ a/\(∀j,a j=O j\/a j=none)/\a i=none/\∀j,j≠i->a j=O j:=by
  intro x p;exact⟨_,Le.release,p,λj=>by
   by_cases e:j=i
   .subst e;right;simp
   .left;exact ax _ _ e,by simp,λj e=>ax _ _ e⟩
 have same:h i=some b->O i=none->∃a,Le w ρ O w ρ a/\HS c w (aH h i (some b)) ρ a/\(∀j,a j=O j\/a j=none)/\a i=none/\∀j,j≠i->a j=O j:=by intro n o;exact⟨O,Le.refl,by rw [k _ _ n];exact hs,λj=> .inl rfl,o,λ_ _=>rfl⟩
 rcases m with⟨sz,bb,xs,e,d⟩ | ⟨l,e,d⟩
 .simp only at e;subst e;rcases d with d | d
  .exact rel (hs.freeze d)
  .obtain⟨_,_,_,g⟩:=hs.af i _ d;exact same d (g rfl)
 .simp only at e;subst e;rcases d with⟨cs,d,hl⟩ | d
  .exact rel (hs.IC d hl)
  .obtain⟨_,_,g,_⟩:=hs.af i _ d;exact same d g
theorem qM(v:AV):fu h (fN h v):=by
 intro p a;unfold fN at a;split at a
 .split at a
  .rename_i i sz b xs d;simp only [NY] at a;subst a;exact .inl ⟨sz,b,xs,rfl, .inl d⟩
  .cases a
 .split at a
  .rename_i i _ _ _ sz b xs d;simp only [NY] at a;subst a;exact .inl ⟨sz,b,xs,rfl, .inl d⟩
  .cases a
 .split at a
  .rename_i i _ cs d;split at a
   .rename_i l hl;simp only [NY] at a;subst a;exact .inr ⟨l,rfl, .inl ⟨cs,d,hl⟩⟩
   .cases a
  .cases a
 .cases a
theorem fu.append{us vs:aB}(b:fu h us)(d:fu h vs):fu h (us++vs):=by
 intro p a;rcases N4.1 a with a | a
 .exact b p a
 .exact d p a
theorem w8:∀(vs:List AV),fu h (kH h vs)
 | []=>by intro p a;cases a
 | v::vs=>(qM v).append (w8 vs)
theorem xc(v:AV):fu h (fF h v):=by
 unfold fF;split
 .exact w8 _
 .exact qM v
theorem HS.BQ:∀{us:aB} {h:Id->Option ad} {O:Id->Option Nat},HS c w h ρ O->fu h us->
  ∃O',Le w ρ O w ρ O'/\HS c w (aK h us) ρ O'/\(∀i,O' i=O i\/O' i=none)/\(∀p∈us,O' p.1=none)/\∀i,(∀p∈us,p.1≠i)->O' i=O i
 | [],h,O,hs,_=>⟨O,Le.refl,hs,λi=> .inl rfl,by simp,λ_ _=>rfl⟩
 | (i,b)::us,h,O,hs,d=>by
  have k:=d (i,b) NN;obtain⟨C,o,q,r,t,u⟩:=hs.shut k;have g:fu (aH h i (some b)) us:=by
   intro p a;have f:=d p (NP _ a);by_cases e:p.1=i
   .obtain⟨j,x⟩:=p;simp only at e f;subst e;rw [aA];exact(k.again f).2
   .rw [ax _ _ e];exact f
  obtain⟨n,v,y,m,z,B⟩:=HS.BQ q g;refine⟨n,o.trans v,y,λj=> ?_,λp a=> ?_,λj l=> ?_⟩
  .rcases m j with e | e
   .rw [e];exact r j
   .exact .inr e
  .rcases N2.1 a with rfl | a
   .rcases m i with e | e
    .rw [e];exact t
    .exact e
   .exact z p a
  .rw [B j (λp a=>l p (NP _ a)),u j (λe=>l (i,b) NN e.symm)]
theorem tI(hs:HS c w h ρ O){v:AV}{x:T}(a:dr h v=some x){i:Id}{af:Nat}(d:pJ v i)(ho:O i=some af):∃p∈fN h v,p.1=i:=by
 rcases d with rfl | ⟨sz,off,n,rfl⟩ | ⟨off,rfl⟩
 .simp only [dr] at a;split at a
  .rename_i fz sz b xs d;cases fz
   .exact⟨(i, .sl true sz b xs),by simp [fN,d],rfl⟩
   .obtain⟨_,_,_,e⟩:=hs.af i _ d;rw [e rfl] at ho;cases ho
  .simp at a
 .simp only [dr] at a;split at a
  .rename_i fz f b xs d;cases fz
   .exact⟨(i, .sl true f b xs),by simp [fN,d],rfl⟩
   .obtain⟨_,_,_,e⟩:=hs.af i _ d;rw [e rfl] at ho;cases ho
  .simp at a
 .simp only [dr] at a;split at a
  .rename_i cs d;obtain⟨l,hl,_⟩:=NM.1 a;exact⟨(i, .eE l),by simp [fN,d,hl],rfl⟩
  .rename_i l d;obtain⟨_,_,e,_⟩:=hs.af i _ d;rw [e] at ho;cases ho
  .simp at a
theorem BU(hs:HS c w h ρ O):∀{vs:List AV} {xs:List T},jx h vs=some xs->∀{i:Id} {af:Nat},(∃u∈vs,pJ u i)->O i=some af->∃p∈kH h vs,p.1=i
 | [],_,_,i,af,⟨u,hu,_⟩,_=>by cases hu
 | v::vs,xs,a,i,af,⟨u,hu,g⟩,ho=>by
  simp only [jx] at a;cases b:dr h v with
  | none=>simp [b] at a
  | some x=>
   cases f:jx h vs with
   | none=>simp [b,f] at a
   | some l=>
    rcases N2.1 hu with rfl | hu
    .obtain⟨p,d,e⟩:=tI hs b g ho;exact⟨p,N3 _ d,e⟩
    .obtain⟨p,d,e⟩:=BU hs f ⟨u,hu,g⟩ ho;exact⟨p,N1 _ d,e⟩
theorem IE(hs:HS c w h ρ O){v:AV}{xs:List T}(b:jw h v=some xs){i:Id}{af:Nat}(a:Dt v i)(ho:O i=some af):∃p∈fF h v,p.1=i:=by
 rcases a with a | ⟨vs,rfl,a⟩
 .have:∃x,dr h v=some x:=by
   rcases a with rfl | ⟨_,_,_,rfl⟩ | ⟨_,rfl⟩ <;> exact(NM.1 b).elim λx d=>⟨x,d.1⟩
  obtain⟨x,d⟩:=this;obtain⟨p,f,e⟩:=tI hs d a ho;refine⟨p, ?_,e⟩;rcases a with rfl | ⟨_,_,_,rfl⟩ | ⟨_,rfl⟩ <;> exact f
 .exact BU hs b a ho
theorem yv{v:AV}{xs:List T}{u:Value}{O':Id->Option Nat}(hs:HS c w h ρ O)(o:aj w (AA c w O) ρ v u)(f:jw h v=some xs)(le:Le w ρ O w ρ O')(g:∀i,O' i=O i\/O' i=none)
  (l:∀p∈fF h v,O' p.1=none):aU w (AA c w O') xs u.cells.toList/\∀y∈u.cells.toList,y.oneCell'=true/\y.cells= #[y]:=by
 refine M4 hs o f (λb k=>(le.A b k).1) (λi af m ho=> ?_);obtain⟨p,n,e⟩:=IE hs f m ho;refine⟨.inr (hs.own i af ho),hs.lt i af ho,λj a=> ?_⟩;rcases g j with d | d
 .rw [d] at a;have:=hs.inj j i af a ho;subst this;have:=l p n;rw [e,d,a] at this;cases this
 .rw [d] at a;cases a
theorem iV(hs:HS c w h ρ O){i:Id}{u:Value}(e:ρ i=some u):u.oneCell'=true/\u.cells= #[u]:=by
 cases j:h i with
 | none=>
  cases k:i.real with
  | true=>rw [(hs.cx i k j).1] at e;cases e
  | false=>
   cases i with
   | g i n=>exact hs.gone i n u e
   | _=>cases k
 | some b=>
  have:=hs.af i b j;cases b with
  | box cs=>obtain⟨b,_,_,d,_⟩:=this;rw [e] at d;simp only [NL] at d;subst d;exact⟨rfl,rfl⟩
  | sl fz sz b xs=>obtain⟨v,d,⟨a,cap,f,_⟩,_⟩:=this;rw [e] at d;simp only [NL] at d;subst d;subst f;exact⟨rfl,rfl⟩
  | eE l=>obtain⟨b,d,_⟩:=this;rw [e] at d;simp only [NL] at d;subst d;exact⟨rfl,rfl⟩
  | mp ag ks vk es=>obtain⟨b,_,_,d,_⟩:=this;rw [e] at d;simp only [NL] at d;subst d;exact⟨rfl,rfl⟩
  | arr cs=>obtain⟨b,_,_,d,_⟩:=this;rw [e] at d;simp only [NL] at d;subst d;exact⟨rfl,rfl⟩
  | rows b sz col rsz m es=>obtain⟨a,cap,d,_⟩:=this;rw [e] at d;simp only [NL] at d;subst d;exact⟨rfl,rfl⟩
  | dead=>obtain⟨⟨v,d,f⟩,_⟩:=this;rw [e] at d;simp only [NL] at d;subst d;exact f
theorem K4(hs:HS c w h ρ O){v:AV}{u:Value}(a:aj w A ρ v u)(d:nG v=true):u.oneCell'=true/\u.cells= #[u]:=by
 cases v <;> simp only [nG,Od] at d <;> simp only [aj] at a
 case t=>exact a.n9
 case ref=>obtain⟨b,_,rfl⟩:=a;exact⟨rfl,rfl⟩
 case el=>obtain⟨_,_,_,_,_,rfl⟩:=a;exact⟨rfl,rfl⟩
 case own=>exact iV hs a
 case part=>obtain⟨_,_,_,_,_,_,_,rfl,_⟩:=a;exact⟨rfl,rfl⟩
 case row=>exact hs.gone _ _ _ a
 case rel=>obtain⟨_,_,_,_,_,rfl⟩:=a;exact⟨rfl,rfl⟩
 case fn=>obtain⟨_,_,rfl,_⟩:=a;exact⟨rfl,rfl⟩
theorem sW(hs:HS c w h ρ O){v:AV}{u:Value}(a:aj w A ρ v u)(g:(fB v).all nG=true):az w A ρ (fB v) u.cells.toList/\∀y∈u.cells.toList,y.oneCell'=true/\y.cells= #[y]:=by
 have one:fB v= [v]->az w A ρ (fB v) u.cells.toList/\∀y∈u.cells.toList,y.oneCell'=true/\y.cells= #[y]:=by intro e;rw [e] at g⊢;simp only [O6,List.all_nil,OW] at g;have d:=K4 hs a g;rw [d.2];refine⟨by simp only [az];exact⟨u,[],rfl,a,rfl⟩, ?_⟩;intro y b;simp at b;subst b;exact d
 cases v
 case agg vs=>simp only [aj] at a;obtain⟨j,rfl,d,i⟩:=a;exact⟨by simpa [fB,Value.cells] using d,by simpa [Value.cells] using i⟩
 case fn f x y=>
  cases x with
  | cons _ _=>exact one rfl
  | nil=>cases y with
   | cons _ _=>exact one rfl
   | nil=>simp only [aj,az] at a;obtain⟨k,l,rfl,rfl,rfl⟩:=a;refine⟨by simp [fB,Value.cells,az,aj,ay], ?_⟩;intro y b;simp [Value.cells] at b;subst b;exact⟨rfl,rfl⟩
 all_goals exact one rfl
end
open Go Go.IntKind
section
variable {P:Program} {w w':World} {A A':Nat->Prop} {c:Ctx} {ρ:Id->Option Value} {O:Id->Option Nat} {s:St} {cc:Option Bool} {h:Id->Option ad}
theorem qy{b:Nat}{arr:Array Value}{t:TypeId}{a:Nat×Nat}(d:w.heap[b]? =some (.cells arr t a))(cs:Array Value)(p:Nat):(w.setRow b cs).cell? ⟨b,p,none⟩=cs[p]?:=by simp only [World.cell?,setRow_heap w b arr cs t a d];rfl
theorem jh{b:Nat}{arr:Array Value}{t:TypeId}{a:Nat×Nat}(d:w.heap[b]? =some (.cells arr t a))(p:Nat):w.cell? ⟨b,p,none⟩=arr[p]?:=by simp only [World.cell?,d];rfl
theorem oq(w:World)(b:Nat)(cs:Array Value):(w.setRow b cs).heap.size=w.heap.size:=by simp [World.setRow]
theorem pK{e:Type}(off:Nat)(new a:List e)(hl:off+new.length<=a.length)(p:Nat):(ct off new a)[p]? =if off<=p/\p < off+new.length then new[p - off]? else a[p]?:=by
 unfold ct;rw [Og];have b:(a.take off).length=off:=by rw [OG];omega
 by_cases h:p < off
 .rw [Ot (by omega),if_neg (by omega),PK,if_pos h]
 .rw [OH (by omega),b];by_cases d:p < off+new.length
  .rw [Ot (by omega),if_pos ⟨by omega,d⟩]
  .rw [OH (by omega),if_neg (by omega),Pu];congr 1;omega
theorem oh{b:Type}(off:Nat)(new a:List b)(hl:off+new.length<=a.length):(ct off new a).length=a.length:=by simp only [ct,OB,OG,ON];omega
theorem bd.js{af:Nat}:∀{l:List T} {vs:List Value} {off:Nat},aU w A l vs->(∀j v,vs[j]? =some v->w.cell? ⟨af,off+j,none⟩=some v)->bd w A af off l
 | [],_,_,_,_=>by simp [bd]
 | x::l,vs,off,⟨v,r,e,b,d⟩,a=>by subst e;simp only [bd];refine⟨⟨v,by simpa using a 0 v rfl,b⟩,bd.js d λj u f=> ?_⟩;have:=a (j+1) u (by simpa using f);rw [show off+1+j=off+ (j+1) by omega];exact this
theorem bd.cells{af:Nat}(a:∀b,A b->A' b/\w'.heap[b]? =w.heap[b]?):∀{cs:List T} {off:Nat},(∀j,j < cs.length->w'.cell? ⟨af,off+j,none⟩=w.cell? ⟨af,off+j,none⟩)->bd w A af off cs->bd w' A' af off cs
 | [],_,_,_=>by simp [bd]
 | x::cs,off,d,e=>by
  simp only [bd] at e⊢;obtain⟨⟨v,f,g⟩,i⟩:=e;refine⟨⟨v, ?_,ay.mono a x v g⟩,bd.cells a (λj k=> ?_) i⟩
  .have:=d 0 (by simp);simp only [PV] at this;rw [this];exact f
  .have:=d (j+1) (by simp;omega);rw [show off+1+j=off+ (j+1) by omega];exact this
theorem bd.append{af:Nat}:∀{a b:List T} {off:Nat},bd w A af off a->bd w A af (off+a.length) b->bd w A af off (a++b)
 | [],b,off,_,h=>by simpa using h
 | x::a,b,off,h,d=>by
  simp only [bd,OL] at h⊢;refine⟨h.1,bd.append h.2 ?_⟩;have:off+1+a.length=off+ (x::a).length:=by simp;omega
  rw [this];exact d
theorem bd.take{af:Nat}:∀{cs:List T} {off:Nat},bd w A af off cs->∀n,bd w A af off (cs.take n)
 | _,_,_,0=>by simp [bd]
 | [],_,_,n+1=>by simp [bd]
 | x::cs,off,h,n+1=>by simp only [bd,Qb] at h⊢;exact⟨h.1,bd.take h.2 n⟩
theorem bf.cells{af sz:Nat}(d:∀b,A b->A' b/\w'.heap[b]? =w.heap[b]?):∀{xs:List (List T)} {off:Nat},(∀p,off<=p->p < off+xs.length * sz->w'.cell? ⟨af,p,none⟩=w.cell? ⟨af,p,none⟩)->bf w A af sz off xs->bf w' A' af sz off xs
 | [],_,_,_=>by simp [bf]
 | cs::xs,off,f,a=>by
  simp only [bf] at a⊢;have e:(cs::xs).length * sz=sz+xs.length * sz:=by simp [OJ];omega
  refine⟨a.1,bd.cells d (λj k=>f _ (by omega) (by rw [e];omega)) a.2.1,bf.cells d (λp g i=>f p (by omega) (by rw [e];omega)) a.2.2⟩
theorem bf.set{af sz:Nat}(i:∀b,A b->A' b/\w'.heap[b]? =w.heap[b]?):∀{xs:List (List T)} {off k:Nat} {new:List T},bf w A af sz off xs->k < xs.length->new.length=sz->bd w' A' af (off+k * sz) new->
  (∀p,off<=p->p < off+xs.length * sz->¬(off+k * sz<=p/\p < off+k * sz+sz)->w'.cell? ⟨af,p,none⟩=w.cell? ⟨af,p,none⟩)->bf w' A' af sz off (xs.set k new)
 | [],_,_,_,_,l,_,_,_=>by simp at l
 | cs::xs,off,0,new,d,_,m,a,f=>by
  simp only [bf,Qe] at d⊢;have e:(cs::xs).length * sz=sz+xs.length * sz:=by simp [OJ];omega
  exact⟨m,by simpa using a,bf.cells i (λp n o=>f p (by omega) (by rw [e];omega) (by omega)) d.2.2⟩
 | cs::xs,off,k+1,new,d,l,m,a,f=>by
  simp only [bf,PW] at d⊢;have e:(cs::xs).length * sz=sz+xs.length * sz:=by simp [OJ];omega
  have g:(k+1) * sz=sz+k * sz:=by rw [OJ];omega
  refine⟨d.1,bd.cells i (λj r=>f _ (by omega) (by rw [e];omega) (by rw [g];omega)) d.2.1,bf.set i d.2.2 (by simpa using l) m ?_ (λp n o q=>f p (by omega) (by rw [e];omega) (by rw [g];omega))⟩;rw [show off+sz+k * sz=off+ (k+1) * sz by rw [g];omega];exact a
theorem az.ct{a l:List AV}{vs us:List Value}(h:az w A ρ a vs)(b:az w A ρ l us)(off:Nat):az w A ρ (ct off l a) (ct off us vs):=by unfold Aev.ct;have:=b.length;rw [this];exact((h.take off).append b).append (h.drop _)
theorem bd.ct{af base off:Nat}{cs l:List T}(a:bd w A af base (cs.take off))(b:bd w A af (base+off) l)(d:bd w A af (base+off+l.length) (cs.drop (off+l.length)))(hl:off<=cs.length):bd w A af base (ct off l cs):=by
 unfold Aev.ct;rw [Og];have lt:(cs.take off).length=off:=by rw [OG];omega
 exact bd.append a (bd.append (by rw [lt];exact b) (by rw [lt];exact d))
theorem uQ{t:TypeId}(g:cb P t=true){b off:Nat}{arr:Array Value}{d:TypeId}{v:Value}(f:w.heap[b]? =some (.cells arr d (0,0)))(hl:v.cells.size=P.cellsOf t)(a:off+v.cells.toList.length<=arr.size)
  (e:∀u∈v.cells.toList,u.oneCell'=true):(storeVar t ⟨b,off,none⟩ v).run P w= .ok () (w.setRow b (ct off v.cells.toList arr.toList).toArray):=by
 unfold storeVar;simp only [N9,hF g,NX,hl,ne_eq,not_true_eq_false,if_false];have:=run_storeCells_at P b off d v.cells.toList 0 arr w f (by simpa using a) e;simp only [PV] at this;rw [this];rfl
theorem BS{v:AV}{p:Id×ad}(a:p∈fN h v):p.1∈v.ids:=by
 unfold fN at a;split at a
 .split at a
  .simp only [NY] at a;subst a;simp [AV.ids]
  .cases a
 .split at a
  .simp only [NY] at a;subst a;simp [AV.ids]
  .cases a
 .split at a
  .split at a
   .simp only [NY] at a;subst a;simp [AV.ids]
   .cases a
  .cases a
 .cases a
theorem BV:∀{vs:List AV} {p:Id×ad},p∈kH h vs->p.1∈cf vs
 | [],p,a=>by cases a
 | v::vs,p,a=>by
  simp only [kH,N4] at a;simp only [cf,N4];rcases a with a | a
  .exact .inl (BS a)
  .exact .inr (BV a)
theorem BX{v:AV}{p:Id×ad}(a:p∈fF h v):p.1∈v.ids:=by
 unfold fF at a;split at a
 .simp only [AV.ids];exact BV a
 .exact BS a
theorem de:∀{us:aB} {h:Id->Option ad} {i:Id},(∀p∈us,p.1≠i)->aK h us i=h i
 | [],_,_,_=>rfl
 | (j,b)::us,h,i,a=>by rw [cN,de (λp d=>a p (NP _ d)),ax _ _ (λe=>a (j,b) NN e.symm)]
theorem r7:∀{us:aB} {h:Id->Option ad} {i:Id} {b:ad},(∀p∈us,p.1≠i)->aK (aH h i (some b)) us=aH (aK h us) i (some b)
 | [],_,_,_,_=>rfl
 | (j,x)::us,h,i,b,f=>by
  rw [cN,cN,<-r7 (λp g=>f p (NP _ g))];congr 1;funext k;have:j≠i:=λe=>f (j,x) NN e;by_cases a:k=j
  .subst a;rw [aA,ax _ _ this,aA]
  .by_cases d:k=i
   .subst d;rw [ax _ _ a,aA,aA]
   .rw [ax _ _ a,ax _ _ d,ax _ _ d,ax _ _ a]
theorem HS.nR{us:aB}(hs:HS c w h ρ O)(a:fu h us):
  ∃O',Le w ρ O w ρ O'/\HS c w (aK h us) ρ O'/\(∀i,O' i=O i\/O' i=none)/\(∀p∈us,O' p.1=none)/\∀i,(∀p∈us,p.1≠i)->O' i=O i:=HS.BQ hs a
theorem uY{b:Nat}{i:Id}(a:O i=some b)(cs:Array Value):Le w ρ O (w.setRow b cs) ρ O:=
 Le.write a rfl rfl rfl (oq w b cs) λk d=>setRow_other w b k cs d
theorem cJ.put{t:TypeId}{sz k off b o L cap:Nat}{bb:Bool}{xs M:List (List T)}{l:List T}{d:Value}{Q:Nat->Prop}(V:cJ w A sz bb xs (.slice (some ⟨b,o,none⟩) L cap) Q)(f:gh k off l xs=some M)(W:cb P t=true)
  (N:l.length=P.cellsOf t) (C:aU w A l d.cells.toList) (R:∀u∈d.cells.toList,u.oneCell'=true/\u.cells= #[u]):
  ∃cs,Q b/\(storeVar t ⟨b,o+k * sz+off,none⟩ d).run P w= .ok () (w.setRow b cs)/\
   ∀A' B,(∀n,A n->A' n/\(w.setRow b cs).heap[n]? =w.heap[n]?)->B b->cJ (w.setRow b cs) A' sz bb M (.slice (some ⟨b,o,none⟩) L cap) B:=by
 obtain⟨a',cap',G,Y,Z,q4,H⟩:=V;simp only [OO] at G;obtain⟨rfl,rfl,rfl⟩:=G;unfold gh at f;cases i:xs[k]? with
 | none=>simp [i] at f
 | some cs=>
  simp only [i] at f;split at f
  .rename_i q;simp only [NL] at f;subst f;have E:k < xs.length:=(NQ.1 i).1;rcases H with H | ⟨af,off',arr,K,I,q7,v,q9,z⟩
   .omega
   .simp only [NL,OK] at I;obtain⟨rfl,rfl,_⟩:=I;obtain⟨F,x⟩:=z.get i;have S:=C.length;have U:(k+1) * sz<=cap * sz:=OI _ (by omega);have e2:(k+1) * sz=k * sz+sz:=OJ _ _;have e:o+k * sz+off+d.cells.toList.length<=arr.size:=by omega
    have J:=uQ (P:=P) W v (by rw [<-Oe,S,N]) e (λu X=>(R u X).1);refine⟨_,q7,J,λA' B g D=> ?_⟩;have y:(xs.set k (ct off l cs)).length=xs.length:=by simp
    refine⟨some ⟨b,o,none⟩,cap,by rw [y],by rw [y];exact Y,Z,q4, .inr ⟨b,o,_,K,rfl,D,setRow_heap w b arr _ K (0,0) v, ?_, ?_⟩⟩
    .have:=oh (o+k * sz+off) d.cells.toList arr.toList (by simpa using e);simp only [OZ];rw [this];simpa using q9
    .have a:∀p,(w.setRow b (ct (o+k * sz+off) d.cells.toList arr.toList).toArray).cell? ⟨b,p,none⟩=if o+k * sz+off<=p/\p < o+k * sz+off+d.cells.toList.length then d.cells.toList[p - (o+k * sz+off)]? else w.cell? ⟨b,p,none⟩:=by
      intro p;rw [qy v,PM,pK _ _ _ (by simpa using e),jh v];simp
     have r:(ct off l cs).length=sz:=by rw [oh off l cs q,F]
     refine bf.set g z E r ?_ ?_
     .refine bd.ct (bd.cells g (λj m=> ?_) (x.take off)) ?_ ?_ (by omega)
      .have lt:(cs.take off).length=off:=by rw [OG];omega
       rw [lt] at m;rw [a,if_neg (by omega)]
      .refine bd.js (aU.mono g _ _ C) (λj u m=> ?_);have hj':j < d.cells.toList.length:=(NQ.1 m).1;rw [a,if_pos (by omega)];rw [show o+k * sz+off+j - (o+k * sz+off)=j by omega];exact m
      .have:=x.drop (off+l.length);rw [show o+k * sz+off+l.length=o+k * sz+ (off+l.length) by omega];refine bd.cells g (λj m=> ?_) this;rw [a,if_neg (by omega)]
     .intro p h1 h2 h3;rw [a,if_neg (by omega)]
  .simp at f
theorem tC{n:Nat}{p:Bool×List (List T)}:∀{es:List Row},cA n es=some p->∃k e,es[k]? =some e/\e.n=n/\e.own=some p/\∀q,cR n q es=es.set k {e with own:=q}
 | [],h=>by simp [cA] at h
 | e::es,h=>by
  unfold cA at h;by_cases c:e.n=n
  .rw [if_pos c] at h;exact⟨0,e,rfl,c,h,λq=>by simp [cR,c]⟩
  .rw [if_neg c] at h;obtain⟨k,e',a,b,d,f⟩:=tC h;exact⟨k+1,e',by simpa using a,b,d,λq=>by simp [cR,c,f]⟩
theorem ry{es:List Row}(h:(es.map (·.n)).Nodup){j k:Nat}{x y:Row}(g:es[j]? =some x)(i:es[k]? =some y)(e:x.n=y.n):j=k:=by
 have d:(es.map (·.n))[j]? =some x.n:=by simp [g]
 have f:(es.map (·.n))[k]? =some x.n:=by simp [i,e]
 obtain⟨l,a⟩:=NQ.1 d;obtain⟨m,b⟩:=NQ.1 f;exact(List.getElem_inj h).1 (a.trans b.symm)
theorem CZ:∀{l:List Nat} {k x:Nat},l.Nodup->x∉l->(l.set k x).Nodup
 | [],_,_,_,_=>by simp
 | a::l,0,x,b,d=>by simp only [Qe,OU,N2,not_or] at b d⊢;exact⟨d.2,b.2⟩
 | a::l,k+1,x,b,d=>by
  simp only [PW,OU,N2,not_or] at b d⊢;refine⟨λhm=> ?_,CZ b.2 d.2⟩;rcases Py hm with h | h
  .exact b.1 h
  .exact d.1 h.symm
theorem IS{O':Id->Option Nat}(hs:HS c w h ρ O)(a:Id->Option Id)(d:∀k b,O' k=some b->∃x,a k=some x/\O x=some b)(e:∀k f x,a k=some x->a f=some x->k=f):∀i j b,O' i=some b->O' j=some b->i=j:=by intro i j b g l;obtain⟨x,m,x2⟩:=d i b g;obtain⟨y,n,o⟩:=d j b l;have:=hs.inj x y b x2 o;subst this;exact e i j x m n
theorem HS.putRow{i j:Id}{b bb:Bool}{sz col rsz q k af:Nat}{es:List Row}{e:Row}{xs:List (List T)}{J:Value}{cs:Array Value}(hs:HS c w h ρ O)(hi:h i=some (.rows b sz col rsz q es))(X:h j=some (.sl false rsz bb xs))(V:es[k]? =some e)(hv:ρ j=some J)
  {a:Option Addr} {cap:Nat} (hρ:ρ i=some (.slice a es.length cap)) {off:Nat} {arr:Array Value} {t:TypeId} (ha:a=some ⟨af,off,none⟩) (hO:O i=some af) (hb:w.heap[af]? =some (.cells arr t (0,0))) (hfit:off+cap * sz<=arr.size)
  (hcs:cs= (ct (off+k * sz+col) [J] arr.toList).toArray):
  ∃ρ' O',Le w ρ O (w.setRow af cs) ρ' O'/\HS c (w.setRow af cs) (aH (aH h j (some .dead)) i (some (.rows b sz col rsz (q+1) (es.set k ⟨q,e.cs,some (bb,xs)⟩)))) ρ' O':=by
 obtain⟨a',cap',r1,r2,r3,⟨n1,n2,n3,n4⟩,r5⟩:=hs.af i _ hi;rw [hρ] at r1;simp only [NL,OO] at r1;obtain⟨rfl, -,rfl⟩:=r1;have hlt:k < es.length:=(NQ.1 V).1;have R:cv w (AA c w O) ρ O i af sz col rsz off es:=by
  rcases r5 with r5 | ⟨blk',off',arr',t',q1,q2,q3,q4,q5⟩
  .omega
  .rw [ha] at q1;simp only [NL,OK] at q1;obtain⟨rfl,rfl,_⟩:=q1;exact q5
 have hen:e.n < q:=n2 e (NU V);have G:=hs.real (i:=i) (by rw [hi];simp);have Q:=hs.real (i:=j) (by rw [X];simp);have hij:j≠i:=λe=>by rw [e,hi] at X;cases X
 have N:∀n,Id.g i n≠j:=λn=>aQ Q;obtain⟨v',s1,s2,_⟩:=hs.af j _ X;rw [hv] at s1;cases s1;have I:=R.get V;have hcol:=I.2.1;have hbnd:(k+1) * sz<=cap * sz:=OI _ (by omega);have e2:(k+1) * sz=k * sz+sz:=OJ _ _;have L:off+k * sz+col+ [J].length<=arr.toList.length:=by simp;omega
 let ρ':Id->Option Value:=aH ρ (.g i q) (some J);let O':Id->Option Nat:=λx=>if x= .g i q then O j else if x=j then none else if x= .g i e.n then none else O x;have F:∀x,x≠ .g i q->x≠j->x≠ .g i e.n->O' x=O x:=λx o H S=>by simp only [O',if_neg o,if_neg H,if_neg S]
 have hOn:O' (.g i q)=O j:=by simp only [O',if_true]
 have hOj:O' j=none:=by simp only [O',if_neg (N q).symm,if_true]
 have hOe:O' (.g i e.n)=none:=by
  have o:Id.g i e.n≠ .g i q:=by intro h;cases h;omega
  simp only [O',if_neg o,if_neg (N e.n),if_true]
 have K:∀x d,O' x=some d->(x= .g i q/\O j=some d)\/(x≠ .g i q/\x≠j/\x≠ .g i e.n/\O x=some d):=by
  intro x d l;simp only [O'] at l;split at l
  .exact .inl ⟨by assumption,l⟩
  .split at l
   .cases l
   .split at l
    .cases l
    .exact .inr ⟨by assumption,by assumption,by assumption,l⟩
 have le:Le w ρ O (w.setRow af cs) ρ' O':=by
  refine⟨rfl,rfl,rfl,by rw [oq];exact Oh _,λx u l=> ?_,λd _ hn=>setRow_other w af d _ λe=>hn i (e▸hO),λx d l=> ?_⟩
  .by_cases e:x= .g i q
   .subst e;rw [n3 q (Oh _)] at l;cases l
   .simp only [ρ'];rw [ax _ _ e];exact l
  .rcases K x d l with⟨_,h⟩ | ⟨_,_,_,h⟩
   .exact .inl ⟨j,h⟩
   .exact .inl ⟨x,h⟩
 have C:∀x d,x≠i->O x=some d->(w.setRow af cs).heap[d]? =w.heap[d]?:=λx d l r=>setRow_other w af d _ λe=>l (hs.inj x i af (e▸r) hO);refine⟨ρ',O',le,hs.mC le (λx y l=> ?_) (λx Z l=> ?_) (λx n=> ?_) (λx n l=> ?_) (λx n u U=> ?_) ?_ (λx d l=> ?_)⟩
 .by_cases v:x=i
  .subst v;rw [aA] at l;cases l;right;have W:(es.set k ⟨q,e.cs,some (bb,xs)⟩).length=es.length:=by simp
   refine⟨a,cap, ?_,by rw [W];exact r2,r3,⟨?_,λf E=> ?_,λn hn=> ?_,λn d r=> ?_⟩, .inr ⟨af,off,cs,t,ha, ?_,setRow_heap w af arr _ t (0,0) hb, ?_, ?_⟩⟩
   .rw [W];simp only [ρ'];rw [ax _ _ (aQ G).symm];exact hρ
   .rw [QD];refine CZ n1 ?_;intro hm;obtain⟨f,E,e⟩:=Ou.1 hm;simp only at e;have:=n2 f E;omega
   .rcases Py E with E | rfl
    .have:=n2 f E;omega
    .simp
   .have o:Id.g x n≠ .g x q:=by intro h;cases h;omega
    simp only [ρ'];rw [ax _ _ o];exact n3 n (by omega)
   .rcases K _ d r with⟨h,_⟩ | ⟨o,_,S,h4⟩
    .cases h;exact⟨_,List.mem_set hlt _,rfl⟩
    .obtain⟨f,E,M⟩:=n4 n d h4;obtain⟨m,hm⟩:=P2.1 E;have hmk:m≠k:=λe'=>by rw [e',V] at hm;cases hm;rw [M] at S;exact S rfl
     refine⟨f,P2.2 ⟨m, ?_⟩,M⟩;rw [Pe,if_neg (Qm hmk)];exact hm
   .rw [F x (aQ G).symm (Qm hij) (aQ G).symm];exact hO
   .rw [hcs,OZ,oh _ _ _ L];simpa using hfit
   .have D:∀p,(w.setRow af cs).cell? ⟨af,p,none⟩=if off+k * sz+col<=p/\p < off+k * sz+col+1 then some J else w.cell? ⟨af,p,none⟩:=by
     intro p;rw [qy hb,hcs,PM,pK _ _ _ L,jh hb];by_cases Y:off+k * sz+col<=p/\p < off+k * sz+col+1
     .rw [if_pos (by simpa using Y),if_pos Y,show p - (off+k * sz+col)=0 by omega];rfl
     .rw [if_neg (by simpa using Y),if_neg Y];simp
    refine cv.set (λd r=>le.A d r) hlt (λp p1 p2 p3=>by rw [D,if_neg (by omega)]) (λm f hm E=> ?_) ?_ R
    .have M:f.n≠e.n:=λe'=>hm (ry n1 E V e');have hfx:f.n≠q:=by have:=n2 f (NU E);omega
     have o:Id.g x f.n≠ .g x q:=by intro h;simp only [Id.g.injEq] at h;exact hfx h.2
     have H:Id.g x f.n≠ .g x e.n:=by intro h;simp only [Id.g.injEq] at h;exact M h.2
     refine⟨by simp only [ρ'];exact ax _ _ o,F _ o (N _) H,λd r=>C _ d (aQ G) r⟩
    .refine⟨I.1,hcol,λm y hm B=> ?_,J,by rw [D,if_pos (by omega)],by simp only [ρ'];exact aA _ _ _, ?_⟩
     .obtain⟨u,g1,g2⟩:=I.2.2.1 m y hm B;have hml:m < sz:=by have:=(NQ.1 B).1;rw [I.1] at this;exact this
      exact⟨u,by rw [D,if_neg (by omega)];exact g1,ay.mono (λd r=>le.A d r) y u g2⟩
     .simp only;refine cJ.mono (λd r=>le.A d r) (λd r=> ?_) s2;simp only [Od,if_false] at r;rw [hOn];exact⟨r,C j d hij r⟩
  .rw [ax _ _ v] at l;by_cases e3:x=j
   .subst e3;rw [aA] at l;cases l;exact .inr ⟨⟨J,by simp only [ρ'];rw [ax _ _ (N q).symm];exact hv,iV hs hv⟩,hOj⟩
   .rw [ax _ _ e3] at l;have hrx:=hs.real (i:=x) (by rw [l];simp);refine .inl ⟨l,F x (aQ hrx).symm e3 (aQ hrx).symm,λd r=>C x d v r,λn=> ?_⟩;have o:∀m,Id.g x n≠ .g i m:=by intro m h;cases h;exact v rfl
    exact⟨by simp only [ρ'];exact ax _ _ (o _),F _ (o _) (aQ Q) (o _),λd r=>C _ d (aQ G) r⟩
 .by_cases v:x=i
  .subst v;rw [aA] at l;cases l
  .rw [ax _ _ v] at l;by_cases e3:x=j
   .subst e3;rw [aA] at l;cases l
   .rw [ax _ _ e3] at l;have:=hs.cx x Z l;refine⟨?_, ?_⟩
    .simp only [ρ'];rw [ax _ _ (aQ Z).symm];exact this.1
    .rw [F x (aQ Z).symm e3 (aQ Z).symm];exact this.2
 .rw [ax _ _ (aQ G),ax _ _ (aQ Q)];exact hs.dA x n
 .by_cases v:x=i
  .subst v;rw [aA] at l;cases l
  .rw [ax _ _ v] at l;by_cases e3:x=j
   .subst e3;rw [aA] at l;cases l
   .rw [ax _ _ e3] at l;have:=hs.eM x n l;have o:∀m,Id.g x n≠ .g i m:=by intro m h;cases h;exact v rfl
    refine⟨?_, ?_⟩
    .simp only [ρ'];rw [ax _ _ (o _)];exact this.1
    .rw [F _ (o _) (aQ Q) (o _)];exact this.2
 .by_cases v:Id.g x n= .g i q
  .rw [v] at U;simp only [ρ',aA,NL] at U;subst U;exact iV hs hv
  .simp only [ρ'] at U;rw [ax _ _ v] at U;exact hs.gone x n u U
 .refine IS hs (λx=>if x= .g i q then some j else if x=j then none else some x) (λx d l=> ?_) (λx y z l B=> ?_)
  .rcases K x d l with⟨o,H⟩ | ⟨o,H,_,S⟩
   .exact⟨j,by rw [if_pos o],H⟩
   .exact⟨x,by rw [if_neg o,if_neg H],S⟩
  .split at l <;> split at B
   .rename_i o H;rw [o,H]
   .split at B
    .cases B
    .simp only [NL] at l B;subst l;rename_i h;exact(h B).elim
   .split at l
    .cases l
    .simp only [NL] at l B;subst B;rename_i h;exact(h l).elim
   .split at l
    .cases l
    .split at B
     .cases B
     .simp only [NL] at l B;rw [l,B]
 .rw [oq];rcases K x d l with⟨_,h⟩ | ⟨_,_,_,h⟩
  .exact hs.lt _ d h
  .exact hs.lt _ d h
theorem HS.NF{i:Id}{n r:Nat}{b:Bool}{sz col rsz X:Nat}{es:List Row}{p:Bool×List (List T)}{F:List (List T)}{v:Value}{cs:Array Value}(hs:HS c w h ρ O)(Q:h i=some (.rows b sz col rsz X es))(hf:cA n es=some p)(M:O (.g i n)=some r)
  (U:ρ (.g i n)=some v) (S:cJ (w.setRow r cs) (AA c (w.setRow r cs) O) rsz p.1 F v (λd=>O (.g i n)=some d)):
  HS c (w.setRow r cs) (aH h i (some (.rows b sz col rsz X (cR n (some (p.1,F)) es)))) ρ O:=by
 have le:Le w ρ O (w.setRow r cs) ρ O:=uY M _;have H:=hs.real (i:=i) (by rw [Q];simp);have o:∀x d,x≠ .g i n->O x=some d->(w.setRow r cs).heap[d]? =w.heap[d]?:=λx d j l=>setRow_other w r d _ λe=>j (hs.inj x _ r (e▸l) M);obtain⟨k,e,C,G,heo,K⟩:=tC hf;refine hs.mC le (λx y j=> ?_) (λx hr j=> ?_) (λx m=> ?_) (λx m j=> ?_) hs.gone hs.inj (λx d l=>by rw [oq];exact hs.lt x d l)
 .by_cases z:x=i
  .subst z;rw [aA] at j;cases j;right;obtain⟨a,cap,r1,r2,r3,⟨V,W,n3,n4⟩,L⟩:=hs.af x _ Q;rw [K];have D:(es.set k {e with own:=some (p.1,F)}).length=es.length:=by simp
   have E:(es.set k {e with own:=some (p.1,F)}).map (·.n)=es.map (·.n):=by
    rw [QD];refine O5 λm=> ?_;rw [Pe];split
    .rename_i h;subst h;have:=(NQ.1 C).1;rw [if_pos (by simpa using this)];simp [C]
    .rfl
   refine⟨a,cap,by rw [D];exact r1,by rw [D];exact r2,r3,⟨by rw [E];exact V,λf q=> ?_,n3,λm d l=> ?_⟩, ?_⟩
   .rcases Py q with q | rfl
    .exact W f q
    .exact W e (NU C)
   .obtain⟨f,q,N⟩:=n4 m d l;have:m∈(es.set k {e with own:=some (p.1,F)}).map (·.n):=by rw [E];exact Ou.2 ⟨f,q,N⟩
    obtain⟨f',h1,h2⟩:=Ou.1 this;exact⟨f',h1,h2⟩
   .rcases L with L | ⟨af,off,arr,t,q1,Y,q3,q4,Z⟩
    .exact .inl L
    .have B:(w.setRow r cs).heap[af]? =w.heap[af]?:=o x af (aQ H).symm Y;refine .inr ⟨af,off,arr,t,q1,Y,by rw [B];exact q3,q4, ?_⟩;have J:=Z.get C;refine cv.set (λd l=>le.A d l) (NQ.1 C).1 (λ_ _ _ _=>lA B) (λm f hm q=>⟨rfl,rfl,λd l=>o _ d (λh=> ?_) l⟩) ?_ Z
     .simp only [Id.g.injEq] at h;exact hm (ry V q C (by rw [h.2,G]))
     .obtain⟨a1,a2,a3,u,a4,I,a7⟩:=J;refine⟨a1,a2,λm y hm hy=> ?_,u,by rw [lA B];exact a4,I, ?_⟩
      .obtain⟨u',g1,g2⟩:=a3 m y hm hy;exact⟨u',by rw [lA B];exact g1,ay.mono (λd l=>le.A d l) y u' g2⟩
      .simp only;rw [G] at I⊢;rw [I] at U;cases U;exact S
  .rw [ax _ _ z] at j;have R:=hs.real (i:=x) (by rw [j];simp);refine .inl ⟨j,rfl,λd l=>o x d (aQ R).symm l,λm=>⟨rfl,rfl,λd l=>o _ d (λh=> ?_) l⟩⟩;simp only [Id.g.injEq] at h;exact z h.1
 .by_cases z:x=i
  .subst z;rw [aA] at j;cases j
  .rw [ax _ _ z] at j;exact hs.cx x hr j
 .rw [ax _ _ (aQ H)];exact hs.dA x m
 .by_cases z:x=i
  .subst z;rw [aA] at j;cases j
  .rw [ax _ _ z] at j;exact hs.eM x m j
theorem Ng{R:Type}{t:TypeId}{a v:AV}{va y:Value}{K:aB->Option R}{r:R}(hs:HS c w s.h ρ O)(N:aj w (AA c w O) ρ a va)(hx:aj w (AA c w O) ρ v y)(f:hI P s t a v K=some r):
  ∃us w' ρ' O',K us=some r/\(Instr.storeAt t va y).run P w= .ok () w'/\Le w ρ O w' ρ' O'/\HS c w' (aK s.h us) ρ' O':=by
 unfold hI at f;cases ht:cb P t
 .simp [ht] at f
 simp only [ht,cond_true] at f;split at f
 .rename_i i off;split at f
  .rename_i cs H;split at f
   .rename_i q;obtain⟨T,M,c3⟩:=q;obtain⟨b,arr,t',h1,h2,h3,h4,h5,h6⟩:=vI hs H;simp only [aj] at N;obtain⟨J,x,rfl⟩:=N;rw [h1] at x;simp only [NL,Pj,OK] at x;obtain⟨rfl,_⟩:=x;obtain⟨U,g2⟩:=sW hs hx M;have gl:=U.length;have hl:=h4.length;have D:off+y.cells.toList.length<=arr.size:=by rw [gl];simp only [Oe] at hl;omega
    have B:=uQ (P:=P) ht h3 (by rw [<-Oe,gl,T]) D (λu hu=>(g2 u hu).1);have le:Le w ρ O (w.setRow b (ct off y.cells.toList arr.toList).toArray) ρ O:=uY h2 _;refine⟨_,_,ρ,O,f,by simpa [Instr.storeAt,Instr.sureAddr] using B,le, ?_⟩;rw [du];refine hs.write h2 le (λk f=>setRow_other w b k _ f) _ ?_ (by rw [H];simp);refine⟨b,_,t',h1,h2,setRow_heap w b arr _ t' (0,0) h3, ?_, ?_⟩
    .have m:∀(Y:List AV) (vs:List Value),az w (AA c w O) ρ Y vs->az _ _ ρ Y vs:=λY vs hr=>az.mono (λb hb=>le.A b hb) le.dQ Y vs hr;exact az.ct (m _ _ h4) (m _ _ U) off
    .intro u hu;simp only [ct,N4] at hu;rcases hu with(hu | hu) | hu
     .exact h5 u (Pz hu)
     .exact g2 u hu
     .exact h5 u (PS hu)
   .simp at f
  .simp at f
 .rename_i i sz k off;split at f
  .rename_i g bb xs H;obtain⟨l,hsn,f⟩:=NM.1 f;split at f
   .rename_i q;obtain⟨rfl,T,M⟩:=q;replace f:=aO f (.inl rfl);obtain⟨ys,I,f⟩:=f;have E:∀p∈fF s.h v,p.1≠i:=by
     intro p hp e;have:=BX hp;rw [e] at this;simp only [List.contains_eq_mem,decide_eq_false_iff_not] at M;exact M this
    obtain⟨G,cn,S,o1,o2,o3⟩:=HS.nR hs (xc (h:=s.h) v);obtain⟨U,g2⟩:=yv hs hx hsn cn o1 o2;have Q:aK s.h (fF s.h v) i=some (.sl false g bb xs):=by rw [de E];exact H
    obtain⟨vv,q0,a',cap',X,q2,q3,q4,q5⟩:=l5 S Q;simp only [aj] at N;obtain⟨b,o,L,cap,x,rfl⟩:=N;rw [q0] at x;simp only [NL] at x;subst x;simp only [OO] at X;obtain⟨rfl,rfl,rfl⟩:=X;unfold gh at I;cases hkx:xs[k]? with
    | none=>simp [hkx] at I
    | some cs=>
     simp only [hkx] at I;split at I
     .rename_i hfit0;simp only [NL] at I;subst I;have hlt:k < xs.length:=(NQ.1 hkx).1;rcases q5 with q5 | ⟨af,off',arr,t',q6,q7,q8,q9,q10⟩
      .omega
      .simp only [NL,OK] at q6;obtain⟨rfl,rfl,_⟩:=q6;simp only [Od,if_false] at q7;obtain⟨lcs,hcs⟩:=q10.get hkx;have gl:=U.length;have hbnd:(k+1) * g<=cap * g:=OI _ (by omega);have e2:(k+1) * g=k * g+g:=OJ _ _;have D:o+k * g+off+y.cells.toList.length<=arr.size:=by omega
       have B:=uQ (P:=P) ht q8 (by rw [<-Oe,gl,T]) D (λu hu=>(g2 u hu).1);have F:Le w ρ G (w.setRow b (ct (o+k * g+off) y.cells.toList arr.toList).toArray) ρ G:=uY q7 _;refine⟨_,_,ρ,G,f,by simpa [Instr.storeAt,Instr.sureAddr] using B,cn.trans F, ?_⟩;rw [cN,r7 E];refine S.write q7 F (λk f=>setRow_other w b k _ f) _ ?_ (by rw [Q];simp);refine⟨_,q0, ?_,by simp⟩;have hl2:(xs.set k (ct off l cs)).length=xs.length:=by simp
       refine⟨some ⟨b,o,none⟩,cap,by rw [hl2],by rw [hl2];exact q2,q3,q4, .inr ⟨b,o,_,t',rfl,by simpa using q7,setRow_heap w b arr _ t' (0,0) q8, ?_, ?_⟩⟩
       .have:=oh (o+k * g+off) y.cells.toList arr.toList (by simpa using D);simp only [OZ];rw [this];simpa using q9
       .have z:∀p,(w.setRow b (ct (o+k * g+off) y.cells.toList arr.toList).toArray).cell? ⟨b,p,none⟩=if o+k * g+off<=p/\p < o+k * g+off+y.cells.toList.length then y.cells.toList[p - (o+k * g+off)]? else w.cell? ⟨b,p,none⟩:=by
         intro p;rw [qy q8,PM,pK _ _ _ (by simpa using D),jh q8];simp
        have Z:∀J,AA c w G J->AA c (w.setRow b (ct (o+k * g+off) y.cells.toList arr.toList).toArray) G J/\(w.setRow b (ct (o+k * g+off) y.cells.toList arr.toList).toArray).heap[J]? =w.heap[J]?:=λJ hb'=>F.A J hb';have lrepl:(ct off l cs).length=g:=by rw [oh off l cs hfit0,lcs]
        refine bf.set Z q10 hlt lrepl ?_ ?_
        .refine bd.ct (bd.cells Z (λj V=> ?_) (hcs.take off)) ?_ ?_ (by omega)
         .have lt:(cs.take off).length=off:=by rw [OG];omega
          rw [lt] at V;rw [z,if_neg (by omega)]
         .refine bd.js (aU.mono Z _ _ U) (λj u V=> ?_);have hj':j < y.cells.toList.length:=(NQ.1 V).1;rw [z,if_pos (by omega)];rw [show o+k * g+off+j - (o+k * g+off)=j by omega];exact V
         .have:=hcs.drop (off+l.length);rw [show o+k * g+off+l.length=o+k * g+ (off+l.length) by omega];refine bd.cells Z (λj V=> ?_) this;rw [z,if_neg (by omega)]
        .intro p h1 h2 h3;rw [z,if_neg (by omega)]
     .simp at I
   .simp at f
  .rename_i bb g col rsz nx es H;split at f
   .rename_i j;split at f
    .rename_i rsz' J xs V;split at f
     .rename_i q;obtain⟨rfl,rfl,rfl,T,M⟩:=q;replace f:=aO f (.inl rfl);obtain⟨e,he,f⟩:=f;obtain⟨a,cap,r1,r2,r3,r4,r5⟩:=hs.af i _ H;simp only [aj] at N hx;obtain⟨b,o,L,cap',x,rfl⟩:=N;have e1':=x;rw [r1] at x;simp only [NL,OO] at x;obtain⟨rfl,rfl,rfl⟩:=x;have hlt:k < es.length:=(NQ.1 he).1;rcases r5 with r5 | ⟨af,off',arr,t',X,q2,q3,q4,q5⟩
      .omega
      .simp only [NL,OK] at X;obtain⟨rfl,rfl,_⟩:=X;have W:=iV hs hx;have hcol:=(q5.get he).2.1;have hbnd:(k+1) * g<=cap * g:=OI _ (by omega);have e2:(k+1) * g=k * g+g:=OJ _ _;have C:y.cells.toList= [y]:=by rw [W.2]
       have B:=uQ (P:=P) (w:=w) (v:=y) ht q3 (by rw [W.2,T];rfl) (off:=o+k * g+off) (by rw [C];simp;omega) (λu hu=>by rw [C,NY] at hu;subst hu;exact W.1);rw [C] at B;obtain⟨ρ',O',le,hs'⟩:=hs.putRow H V he hx r1 rfl q2 q3 q4 rfl;refine⟨_,_,ρ',O',f,by simpa [Instr.storeAt,Instr.sureAddr] using B,le, ?_⟩;rw [cN,du];exact hs'
     .simp at f
    .simp at f
   .simp at f
  .simp at f
 .rename_i i sz n k off;split at f
  .rename_i b g col rsz nx es H;replace f:=aO f (.inl rfl);obtain⟨p,hp,f⟩:=f;replace f:=NM.1 f;obtain⟨l,hsn,f⟩:=f;split at f
   .rename_i q;obtain⟨rfl,T,M⟩:=q;replace f:=aO f (.inl rfl);obtain⟨ys,I,f⟩:=f;have E:∀p∈fF s.h v,p.1≠i:=by
     intro p hp e;have:=BX hp;rw [e] at this;simp only [List.contains_eq_mem,decide_eq_false_iff_not] at M;exact M this
    obtain⟨G,cn,S,o1,o2,o3⟩:=HS.nR hs (xc (h:=s.h) v);obtain⟨U,g2⟩:=yv hs hx hsn cn o1 o2;have Q:aK s.h (fF s.h v) i=some (.rows b g col rsz nx es):=by rw [de E];exact H
    obtain⟨vv,q0,X⟩:=uN (s:=⟨s.t,aK s.h (fF s.h v)⟩) S Q hp;simp only [aj] at N;obtain⟨bk,o,L,cap,x,rfl⟩:=N;rw [q0] at x;simp only [NL] at x;subst x;obtain⟨cs,hOb,B,hsl⟩:=X.put (P:=P) I ht T U g2;have F:Le w ρ G (w.setRow bk cs) ρ G:=uY hOb _;refine⟨_,_,ρ,G,f,by simpa [Instr.storeAt,Instr.sureAddr] using B,cn.trans F, ?_⟩;rw [cN,r7 E];exact S.NF Q hp hOb q0 (hsl _ _ (λd hd=>F.A d hd) hOb)
   .simp at f
  .simp at f
 .simp at f
theorem DX(t:TypeId)(cells:Array Value):(newRow t cells).run P w= .ok ⟨w.heap.size,0,none⟩ (w.alloc (.cells cells t)):=by simp [newRow]
theorem jk(o:Obj):(w.alloc o).heap[w.heap.size]? =some o:=by show(w.heap.push o)[w.heap.size]? =some o;simp
theorem HS.CV{i:Id}(hs:HS c w h ρ O)(a:h i=none){cs:List AV}{vs:List Value}(t:TypeId)(f:az w (AA c w O) ρ cs vs)(d:∀u∈vs,u.oneCell'=true/\u.cells= #[u])(hrl:i.real=true:=by rfl):
  Le w ρ O (w.alloc (.cells vs.toArray t)) (aH ρ i (some (.pointer (some ⟨w.heap.size,0,none⟩)))) (aH O i (some w.heap.size))/\
  HS c (w.alloc (.cells vs.toArray t)) (aH h i (some (.box cs))) (aH ρ i (some (.pointer (some ⟨w.heap.size,0,none⟩)))) (aH O i (some w.heap.size)):=by
 have le:=Le.alloc hs hrl a (.cells vs.toArray t) (.pointer (some ⟨w.heap.size,0,none⟩)) (some w.heap.size) (.inr rfl);refine⟨le,hs.alloc hrl a _ _ _ (.inr rfl) _ ⟨w.heap.size,vs.toArray,t,by simp,by simp,jk _, ?_,d⟩⟩;exact az.mono (λb e=>le.A b e) le.dQ _ _ f
theorem HS.KD{i:Id}(hs:HS c w h ρ O)(a:h i=none){cs:List AV}{arr:Array Value}(t:TypeId)(f:az w (AA c w O) ρ cs arr.toList)(d:∀u∈arr.toList,u.oneCell'=true/\u.cells= #[u])(hrl:i.real=true:=by rfl):
  Le w ρ O (w.alloc (.cells arr t)) (aH ρ i (some (.slice (some ⟨w.heap.size,0,none⟩) 1 1))) (aH O i (some w.heap.size))/\
  HS c (w.alloc (.cells arr t)) (aH h i (some (.arr cs))) (aH ρ i (some (.slice (some ⟨w.heap.size,0,none⟩) 1 1))) (aH O i (some w.heap.size)):=by
 have le:=Le.alloc hs hrl a (.cells arr t) (.slice (some ⟨w.heap.size,0,none⟩) 1 1) (some w.heap.size) (.inr rfl);refine⟨le,hs.alloc hrl a _ _ _ (.inr rfl) _ ⟨w.heap.size,arr,t,by simp,by simp,jk _, ?_,d⟩⟩;exact az.mono (λb e=>le.A b e) le.dQ _ _ f
theorem C3{u:Value}{x:T}(e:mO u=some x):ay w A x u:=by
 cases u <;> simp only [mO,NL,reduceCtorEq] at e
 case slice a l b=>split at e <;> simp_all;subst e;simp [ay]
 case pointer a=>split at e <;> simp_all;subst e;simp [ay]
 case map a=>split at e <;> simp_all;subst e;simp [ay]
 all_goals (subst e;simp [ay])
theorem mP:∀{us:List Value} {l:List T},jN us=some l->aU w A l us
 | [],l,e=>by simp only [jN,NL] at e;subst e;rfl
 | u::us,l,e=>by simp only [jN] at e;obtain⟨x,a,e⟩:=NM.1 e;obtain⟨d,b,e⟩:=NM.1 e;simp only [NL] at e;subst e;exact⟨u,us,rfl,C3 a,mP b⟩
theorem mb{t:TypeId}{l:List T}(e:gG P t=some l):∃i z,P.info? t=some i/\i.zero=some z/\jN z.cells.toList=some l:=by
 unfold gG at e;split at e
 .rename_i i a;split at e
  .rename_i z b;exact⟨i,z,a,b,e⟩
  .simp at e
 .simp at e
theorem IA(off:Nat)(v cells:Array Value)(d:off+v.size<=cells.size):(v.zipIdx.foldl (λcs (x:Value×Nat)=>cs.setIfInBounds (off+x.2) x.1) cells).toList=ct off v.toList cells.toList:=by
 obtain⟨f,b⟩:=Go.Great.foldl_set off v.toList 0 cells;have e:v.zipIdx.foldl (λcs (x:Value×Nat)=>cs.setIfInBounds (off+x.2) x.1) cells= (v.toList.zipIdx 0).foldl (λcs (x:Value×Nat)=>cs.setIfInBounds (off+x.2) x.1) cells:=by rw [<-Array.foldl_toList,Array.toList_zipIdx]
 rw [e];apply O5;intro p;rw [OE,b p,pK off v.toList cells.toList (by simpa using d)];simp only [PV,Oe,OE];by_cases a:off<=p/\p < off+v.size
 .rw [if_pos ⟨a.1,a.2,by omega⟩,if_pos a]
 .rw [if_neg (by omega),if_neg a]
inductive qm (w:World) (A:Nat->Prop) (ρ:Id->Option Value) (place:Nat->Option (Nat×Nat)):List (Nat×List AV)->List (Nat×Value)->Prop
 | nil:qm w A ρ place [] []
 | cons {off:Nat} {l:List AV} {f:Nat} {v:Value} {ls:List (Nat×List AV)} {vs:List (Nat×Value)} (hp:place f=some (off,l.length)) (hr:az w A ρ l v.cells.toList) (h1:∀u∈v.cells.toList,u.oneCell'=true/\u.cells= #[u])
   (rest:qm w A ρ place ls vs):qm w A ρ place ((off,l)::ls) ((f,v)::vs)
theorem BH{a:Nat->Option (Nat×Nat)}:∀{j:List (Nat×List AV)} {vs:List (Nat×Value)} {i out:List AV} {cells:Array Value},qm w A ρ a j vs->qY j i=some out->az w A ρ i cells.toList->(∀u∈cells.toList,u.oneCell'=true/\u.cells= #[u])->
  ∃r,Instr.fill a cells vs=some r/\az w A ρ out r.toList/\∀u∈r.toList,u.oneCell'=true/\u.cells= #[u]
 | [],_,i,out,cells, .nil,hl,d,e=>by simp only [qY,NL] at hl;subst hl;exact⟨cells,rfl,d,e⟩
 | (off,l)::j,(f,v)::vs,i,out,cells, .cons t n m rest,hl,d,e=>by
  simp only [qY] at hl;split at hl
  .rename_i q;have k:=n.length;have y:=d.length;simp only [Oe] at k y;have g:off+v.cells.size<=cells.size:=by omega
   have b:=IA off v.cells cells g;obtain⟨r,o,p,e3⟩:=BH (cells:=v.cells.zipIdx.foldl (λcs (x:Value×Nat)=>cs.setIfInBounds (off+x.2) x.1) cells) rest hl (by
    rw [b];unfold ct;rw [show v.cells.toList.length=l.length by simpa using k];exact((d.take off).append n).append (d.drop _)) (by
    intro u hu;rw [b] at hu;simp only [ct,N4] at hu;rcases hu with(hu | hu) | hu
    .exact e u (Pz hu)
    .exact m u hu
    .exact e u (PS hu))
   refine⟨r, ?_,p,e3⟩;unfold Instr.fill;simp only [t];rw [if_neg (by simp [k];omega)];exact o
  .simp at hl
theorem Dd{t:TypeId}{f:Nat}{p:Nat×TypeId}(e:rG P t f=some p)(k:oc P t=true):
  cb P p.2=true/\((∃a,P.underlying t=some (.struct a)/\(a.toList.map λx=>(x.offset,P.cellsOf x.type))[f]? =some (p.1,P.cellsOf p.2))\/
   ∃n e,P.underlying t=some (.array n e)/\p= (f * P.cellsOf e,e)):=by
 unfold rG at e;split at e
 .rename_i q g;simp only [NL] at e;subst e;obtain⟨a,x,b,d,i,j⟩:=wX g;refine⟨j, .inl ⟨a,b, ?_⟩⟩;rw [OQ,OE,d];simp [i]
 .split at e
  .rename_i n u g;simp only [NL] at e;subst e;obtain⟨b,d⟩:=ze g;exact⟨d, .inr ⟨n,u,b,rfl⟩⟩
  .simp at e
theorem Df{a:Act}{g:Option Gs}{t:TypeId}(hs:HS c w s.h ρ O)(n:SS w (AA c w O) ρ s.t a.tmps)(m:je a.tmps g)(l:oc P t=true)(b:Nat->Option (Nat×Nat))
  (d:∀f p,rG P t f=some p->b f=some (p.1,P.cellsOf p.2)):
  ∀{k:List (Nat×Operand)} {j:List (Nat×List AV)},mU P t (s.get g) k=some j->qm w (AA c w O) ρ b j (k.map λx=>(x.1,a.eval x.2))
 | [],j,e=>by simp only [mU,NL] at e;subst e;exact .nil
 | (f,o)::k,j,e=>by
  simp only [mU] at e;obtain⟨p,v,e⟩:=NM.1 e;split at e
  .rename_i i;obtain⟨q,y,e⟩:=NM.1 e;simp only [NL] at e;subst e;have z:=SS.get (h:=s.h) n m o;obtain⟨r,u⟩:=sW hs z i.2;exact .cons (by rw [d f p v,show(St.get ⟨s.t,s.h⟩ g o)=s.get g o from rfl,i.1]) r u (Df hs n m l b d y)
  .simp at e
theorem FA{a:Act}{g:Option Gs}{t:TypeId}{o:Array (Nat×Operand)}{M:AV}(hs:HS c w s.h ρ O)(Y:SS w (AA c w O) ρ s.t a.tmps)(X:je a.tmps g)(e:sT P t (s.get g) o.toList=some M):
  ∃v,(Instr.build t (o.map λ(i,x)=>(i,a.eval x))).run P w= .ok v w/\aj w (AA c w O) ρ M v:=by
 unfold sT at e;split at e
 .rename_i b;obtain⟨z,Z,e⟩:=NM.1 e;obtain⟨l,hl,e⟩:=NM.1 e;obtain⟨cs,Q,e⟩:=NM.1 e;simp only [NL] at e;subst e;obtain⟨i,zv,D,G,S⟩:=mb Z;have F:aU w (AA c w O) z zv.cells.toList:=mP S;have V:(o.map λ(i,x)=>(i,a.eval x)).toList=o.toList.map λx=>(x.1,a.eval x.2):=by simp
  have key:∀j:Nat->Option (Nat×Nat),(∀f p,rG P t f=some p->j f=some (p.1,P.cellsOf p.2))->∃r,Instr.fill j zv.cells (o.map λ(i,x)=>(i,a.eval x)).toList=some r/\az w (AA c w O) ρ cs r.toList/\∀u∈r.toList,u.oneCell'=true/\u.cells= #[u]:=by intro j y;rw [V];exact BH (Df hs Y X b j y hl) Q (az.jO F) F.one
  have E:∀r:Array Value,P.built t (o.map λ(i,x)=>(i,a.eval x)).toList=some r->az w (AA c w O) ρ cs r.toList->(∀u∈r.toList,u.oneCell'=true/\u.cells= #[u])->
    ∃v,(Instr.build t (o.map λ(i,x)=>(i,a.eval x))).run P w= .ok v w/\aj w (AA c w O) ρ (.agg cs) v:=by
   intro r W m J;exact⟨_,run_build w t _ r W,by simp only [aj];exact⟨r.toList,by simp,m,J⟩⟩
  cases k:P.underlying t with
  | none=>simp [oc,k] at b
  | some d=>
   cases d <;> simp only [oc,k,Od] at b
   case struct C=>
    have q:C.toList.mapM (λf=>(P.info? f.type).map λi=>(f.offset,i.size))=some (C.toList.map λx=>(x.offset,P.cellsOf x.type)):=by
     generalize C.toList=l at b;induction l with
     | nil=>rfl
     | cons f l ih=>simp only [O6,NT] at b;obtain⟨d,K⟩:=Pk.1 b.1;obtain⟨i,D,B⟩:=tO K;simp only [QJ,D,Po,Option.bind_eq_bind,NO,ih b.2,Option.pure_def,Oq,B]
    obtain⟨r,H,I,e3⟩:=key ((C.toList.map λx=>(x.offset,P.cellsOf x.type)).toArray[·]?) (λf p L=>by
     obtain⟨_,h | ⟨n,e,h,_⟩⟩:=Dd L (by simp [oc,k,b])
     .obtain⟨N,m,J⟩:=h;rw [k] at m;simp only [NL,TypeDesc.struct.injEq] at m;subst m;simpa using J
     .rw [k] at h;simp at h)
    refine E r ?_ I e3;simp only [Program.built,D,k,G,q];exact H
   case array n e=>
    obtain⟨d,K⟩:=Pk.1 b;obtain⟨U,R,B⟩:=tO K;obtain⟨r,H,I,e3⟩:=key (λi=>some (i * U.size,U.size)) (λf p L=>by
     obtain⟨_,⟨N,m,_⟩ | ⟨n',e',h,T⟩⟩:=Dd L (by simp [oc,k,b])
     .rw [k] at m;simp at m
     .rw [k] at h;simp only [NL,TypeDesc.array.injEq] at h;obtain⟨rfl,rfl⟩:=h;subst T;simp [B])
    refine E r ?_ I e3;simp only [Program.built,D,k,G,R];exact H
 .simp at e
end
open Go Go.IntKind
section
variable {P:Program} {w w':World} {A A':Nat->Prop} {c:Ctx} {ρ:Id->Option Value} {O:Id->Option Nat} {s:St} {cc:Option Bool} {h:Id->Option ad}
def cy(w:World)(A:Nat->Prop)(sz:Nat):List (List T)->List (List Value)->Prop
 | [],vss=>vss= []
 | cs::xs,vss=>∃vs r,vss=vs::r/\cs.length=sz/\aU w A cs vs/\cy w A sz xs r
theorem cy.mono{sz:Nat}(a:∀b,A b->A' b/\w'.heap[b]? =w.heap[b]?):∀{xs:List (List T)} {vss:List (List Value)},cy w A sz xs vss->cy w' A' sz xs vss
 | [],_,h=>h
 | cs::xs,vss,⟨vs,r,e,d,f,g⟩=>⟨vs,r,e,d,aU.mono a cs vs f,cy.mono a g⟩
theorem cy.length{sz:Nat}:∀{xs:List (List T)} {vss:List (List Value)},cy w A sz xs vss->vss.length=xs.length/\vss.flatten.length=xs.length * sz
 | [],vss,h=>by simp only [cy] at h;subst h;simp
 | cs::xs,vss,⟨vs,r,e,d,f,g⟩=>by subst e;obtain⟨a,b⟩:=cy.length g;have:=f.length;refine⟨by simp [a], ?_⟩;simp only [Pn,OB,b,this,d,NV,OJ];omega
theorem cy.one{sz:Nat}:∀{xs:List (List T)} {vss:List (List Value)},cy w A sz xs vss->∀u∈vss.flatten,u.oneCell'=true/\u.cells= #[u]
 | [],vss,h,u,hu=>by simp only [cy] at h;subst h;simp at hu
 | cs::xs,vss,⟨vs,r,e,d,a,b⟩,u,hu=>by
  subst e;simp only [Pn,N4] at hu;rcases hu with hu | hu
  .exact a.one u hu
  .exact cy.one b u hu
theorem cy.append{sz:Nat}:∀{xs d:List (List T)} {vss a:List (List Value)},cy w A sz xs vss->cy w A sz d a->cy w A sz (xs++d) (vss++a)
 | [],_,vss,_,h,b=>by simp only [cy] at h;subst h;simpa using b
 | cs::xs,d,vss,a,⟨vs,r,e,f,g,i⟩,b=>by subst e;exact⟨vs,r++a,rfl,f,g,cy.append i b⟩
theorem bf.bo{af sz:Nat}:∀{off:Nat} {xs:List (List T)},bf w A af sz off xs->∃vss,cy w A sz xs vss/\∀p v,vss.flatten[p]? =some v->w.cell? ⟨af,off+p,none⟩=some v
 | _,[],_=>⟨[],rfl,by simp⟩
 | off,cs::xs,h=>by
  simp only [bf] at h;obtain⟨vs,b,d⟩:=h.2.1.bo;obtain⟨r,e,f⟩:=bf.bo h.2.2;refine⟨vs::r,⟨vs,r,rfl,h.1,b,e⟩,λp v a=> ?_⟩;have hl:=b.length;rw [h.1] at hl;rw [Pn] at a;by_cases g:p < sz
  .rw [Ot (by omega)] at a;exact d p v a
  .rw [OH (by omega),hl] at a;have:=f _ v a;rw [show off+sz+ (p - sz)=off+p by omega] at this;exact this
theorem bf.js{af sz:Nat}:∀{off:Nat} {xs:List (List T)} {vss:List (List Value)},cy w A sz xs vss->(∀p v,vss.flatten[p]? =some v->w.cell? ⟨af,off+p,none⟩=some v)->bf w A af sz off xs
 | _,[],_,_,_=>by simp [bf]
 | off,cs::xs,vss,⟨vs,r,e,a,b,g⟩,f=>by
  subst e;have hl:=b.length;rw [a] at hl;simp only [bf];refine⟨a,bd.js b (λj v d=>f j v ?_),bf.js g (λp v i=> ?_)⟩
  .rw [Pn,Ot (NQ.1 d).1];exact d
  .have:=f (sz+p) v (by rw [Pn,OH (by omega),hl,show sz+p - sz=p by omega];exact i);rw [show off+sz+p=off+ (sz+p) by omega];exact this
theorem HS.um{i:Id}(hs:HS c w h ρ O)(d:h i=none){xs:List (List T)}{vss:List (List Value)}{sz:Nat}(t:TypeId)(cells:Array Value)(cap:Nat)(j:cy w (AA c w O) sz xs vss)
  (f:∀(p:Nat) (v:Value),vss.flatten[p]? =some v->cells[p]? =some v) (a:xs.length<=cap) (k:cap * sz<=cells.size) (hrl:i.real=true:=by rfl):
  Le w ρ O (w.alloc (.cells cells t)) (aH ρ i (some (.slice (some ⟨w.heap.size,0,none⟩) xs.length cap))) (aH O i (some w.heap.size))/\
  HS c (w.alloc (.cells cells t)) (aH h i (some (.sl false sz false xs))) (aH ρ i (some (.slice (some ⟨w.heap.size,0,none⟩) xs.length cap))) (aH O i (some w.heap.size)):=by
 have le:=Le.alloc hs hrl d (.cells cells t) (.slice (some ⟨w.heap.size,0,none⟩) xs.length cap) (some w.heap.size) (.inr rfl);refine⟨le,hs.alloc hrl d _ _ _ (.inr rfl) _ ⟨_,by rw [aA],⟨some ⟨w.heap.size,0,none⟩,cap,rfl,a,by simp,trivial, .inr ⟨w.heap.size,0,cells,t,rfl,by simp,jk _,by omega, ?_⟩⟩,by simp⟩⟩;refine bf.js (cy.mono (λb e=>le.A b e) j) (λp v g=> ?_);rw [jh (jk _),Ov];exact f p v g
theorem Bo{a:Act}{g:Option Gs}{e:TypeId}(hs:HS c w s.h ρ O)(D:SS w (AA c w O) ρ s.t a.tmps)(C:je a.tmps g){O':Id->Option Nat}(le:Le w ρ O w ρ O')(m:∀i,O' i=O i\/O' i=none):
  ∀{y:List (Nat×Operand)} {n:Nat} {q:List (List T)×aB},gv P s.h e (s.get g) n y=some q->(∀p∈q.2,O' p.1=none)->
   ∃vs:List Value,(y.map λx=>(x.1,a.eval x.2))= ((vs.zipIdx n).map λx=>(x.2,x.1))/\cy w (AA c w O') (P.cellsOf e) q.1 (vs.map λv=>v.cells.toList)/\(∀v∈vs,v.cells.size=P.cellsOf e)
 | [],n,q,b,_=>by simp only [gv,NL] at b;subst b;exact⟨[],rfl,by simp [cy],by simp⟩
 | (k,o)::y,n,q,b,r=>by
  simp only [gv] at b;obtain⟨l,hl,b⟩:=NM.1 b;split at b
  .rename_i j;obtain⟨rfl,d⟩:=j;obtain⟨J,B,b⟩:=NM.1 b;simp only [NL] at b;subst b;simp only [N4] at r;obtain⟨vs,E,F,e3⟩:=Bo hs D C le m B (λp u=>r p (.inr u));have H:=SS.get (h:=s.h) D C o;obtain⟨z,I⟩:=yv hs H hl le m (λp u=>r p (.inl u));have G:=z.length;refine⟨a.eval o::vs, ?_,⟨_,_,rfl,d,z,F⟩, ?_⟩
   .simp only [Oq,List.zipIdx_cons,E]
   .intro v f;rcases N2.1 f with rfl | f
    .rw [<-Oe,G,d]
    .exact e3 v f
  .simp at b
theorem Bn{e:TypeId}{ev:Operand->AV}:∀{b:List (Nat×Operand)} {n:Nat} {q:List (List T)×aB},gv P h e ev n b=some q->fu h q.2/\q.1.length=b.length
 | [],n,q,a=>by simp only [gv,NL] at a;subst a;exact⟨(λp i=>by cases i),rfl⟩
 | (k,o)::b,n,q,a=>by
  simp only [gv] at a;obtain⟨l,hl,a⟩:=NM.1 a;split at a
  .obtain⟨j,d,a⟩:=NM.1 a;simp only [NL] at a;subst a;obtain⟨f,g⟩:=Bn d;exact⟨(xc _).append f,by simp [g]⟩
  .simp at a
theorem uO{t e:TypeId}{n:Nat}(u:P.underlying t=some (.slice e))(l:cb P e=true)(d:(gG P e).isSome=true)(b: 0 < P.cellsOf e)(g:n<=1000/\P.cellsOf e<=1000)(vs:List Value)(y:∀v∈vs,v.cells.size=P.cellsOf e)(j:vs.length=n)
  (o:Array (Nat×Value)) (a:o.toList= (vs.zipIdx 0).map λx=>(x.2,x.1)):
  (Instr.buildSlice t n o).run P w= .ok (.slice (some ⟨w.heap.size,0,none⟩) n n) (w.alloc (.cells (vs.flatMap λv=>v.cells.toList).toArray e)):=by
 obtain⟨z,d⟩:=Pk.1 d;obtain⟨i,zv,r,m,_⟩:=mb d;have B:n * P.cellsOf e<=1000 * 1000:=QK g.1 g.2;have q:¬(n * P.cellsOf e > 2 ^ 24):=by
  have f:(2:Nat) ^ 24=16777216:=by decide
  rw [f];omega
 have p:=Go.Great.fill_whole b vs;unfold Instr.buildSlice;simp only [N9,run_underlying u,NX,hF l,if_neg q,Sem.run_ite];by_cases h0:n * P.cellsOf e=0
 .have k:n=0:=by rcases Nat.mul_eq_zero.1 h0 with e | e <;> omega
  subst k;have:vs= []:=Oc.1 j;subst this;simp only [Nat.zero_mul,if_true,Oo,NX];simp only [List.zipIdx_nil,OV] at a;simp [a,Instr.fill,newRow,Array.range_zero']
 .simp only [if_neg h0,N9,zeroValue,typeInfo,run_program,NX,r,Oo,m];rw [a,p _ y (by simp [j])];simp [newRow]
theorem DW{t e:TypeId}{b:List T}{n m:Int}{kn km:IntKind}(u:P.underlying t=some (.slice e))(v:gG P e=some b)(q:P.bytesOf e<=8192)(r:b.length=P.cellsOf e)(h0: 0<=n)(p:n<=m)(f:m<=kN):
  ∃zv:Value,aU w A b zv.cells.toList/\(Instr.makeSlice t (.int kn n) (.int km m)).run P w= .ok (.slice (some ⟨w.heap.size,0,none⟩) n.toNat m.toNat) (w.alloc (.cells (madeCells zv.cells (m.toNat * P.cellsOf e)) e)):=by
 obtain⟨i,zv,a,l,j⟩:=mb v;have k:P.cellsOf e=i.size:=by simp [Program.cellsOf,a]
 have g:P.bytesOf e=i.bytes:=by simp [Program.bytesOf,a]
 refine⟨zv,mP j, ?_⟩;rw [k];refine run_make w t e i zv u a l kn km n m h0 p ?_ ?_
 .rw [g] at q;have:(i.bytes:Int) * m<=8192 * 4294967296:=by
   have o:(i.bytes:Int)<=8192:=by omega
   have d:m<=4294967296:=by simpa [kN] using f
   calc (i.bytes:Int) * m<=8192 * m:=Qq o (by omega)
    _<=8192 * 4294967296:=Qw d (by omega)
  omega
 .have d:m<=4294967296:=by simpa [kN] using f
  omega
theorem xz{zv:Array Value}{sz:Nat}(b:zv.size=sz)(n m:Nat)(i:n<=m):∀(p:Nat) (v:Value),(List.replicate n zv.toList).flatten[p]? =some v->(madeCells zv (m * sz))[p]? =some v:=by
 intro p v a;have d:p < n * sz:=by have:=(NQ.1 a).1;simpa [b] using this
 have g: 0 < sz:=by
  rcases Nat.eq_zero_or_pos sz with e | e
  .rw [e] at d;simp at d
  .exact e
 have hm:n * sz<=m * sz:=OI _ i;have key:∀n p,p < n * sz->(List.replicate n zv.toList).flatten[p]? =zv[p % sz]?:=by
  intro n;induction n with
  | zero=>intro p h;simp at h
  | succ n j=>
   intro p h;rw [Ph,Pn];by_cases a:p < sz
   .rw [Ot (by simpa [b] using a),Qj a];simp
   .rw [OH (by simp [b];omega)];simp only [Oe,b];have k:(n+1) * sz=n * sz+sz:=OJ _ _;rw [j _ (by omega)];congr 1;exact(Nat.mod_eq_sub_mod (by omega)).symm
 rw [key n p d] at a;have f:p % sz < zv.size:=by rw [b];exact QM _ g
 simp only [madeCells,Array.getElem?_map];rw [Px (by simp;omega)];simp only [Array.getElem_range,Po,b];rw [Px f] at a;rw [getElem!_pos zv _ f];exact a
theorem cy.replicate{sz:Nat}{a:List T}{vs:List Value}(b:aU w A a vs)(hl:a.length=sz):∀n,cy w A sz (List.replicate n a) (List.replicate n vs)
 | 0=>rfl
 | n+1=>⟨vs,List.replicate n vs,rfl,hl,b,cy.replicate b hl n⟩
end
end Go.Aev
