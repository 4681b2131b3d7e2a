import Derived.Test.YtcjplcpngagalaaDoorBlastNoneQ1
import Derived.ChangeKeysEq
import Derived.Deep.AppendSrc
import Derived.Great.FillDense
set_option linter.all false
namespace Go.Aev
open Go Go.IntKind
section
variable {P:Program} {w:World} {A:Nat->Prop}
theorem T.eV{k:IntKind}{x:T}{n:Int}(h:x.int? k=some n):x= .int k n:=by cases x <;> simp only [T.int?,reduceCtorEq] at h;split at h <;> simp_all
theorem T.gy{x:T}{b:Bool}(h:x.bool? =some b):x= .bool b:=by cases x <;> simp_all [T.bool?]
theorem T.iL{x:T}{s:ByteArray}(h:x.ba =some s):x= .str s:=by cases x <;> simp_all [T.ba]
theorem T.te{x:T}{cs:List T}(h:x.nG =some cs):x= .ptr cs:=by cases x <;> simp_all [T.nG]
theorem T.nw{sz:Nat}{x:T}{p:Bool×List (List T)}(h:x.au sz=some p):x= .ad sz p.1 p.2\/(x= .af p.1/\p.2= []):=by
 cases x <;> simp only [T.au,reduceCtorEq,Lo] at h
 case ad a b xs=>split at h <;> simp_all;subst h;simp
 case af b=>subst h;simp
theorem G7{w:World}{A:Nat->Prop}{y:T}{v:Value}(h:sP y=true)(a:ax w A y v):v= .slice none 0 0:=by
 unfold sP at h;split at h
 .simp only [ax] at a;rcases a with⟨_,h⟩ | ⟨h,_⟩
  .exact h
  .cases h
 .simp only [ax] at a;rcases a with⟨_,_,h⟩ | ⟨h,_⟩
  .exact h
  .cases h
 .cases h
theorem AV.jJ{v:AV}{x:T}(h:v.t? =some x):v= .t x:=by cases v <;> simp_all [AV.t?]
theorem nq{d R:Type}[Inhabited d]{c:Option Bool}{m:Option d}{k:d->Option R}{r:R}(h:aa c m k=some r):
  ∃a,k a=some r/\(m=some a\/(m=none/\c=some false)):=by
 unfold aa at h;cases m with
 | some a=>exact⟨a,h, .inl rfl⟩
 | none=>cases c with
  | none=>simp at h
  | some b=>cases b with
   | true=>simp at h
   | false=>exact⟨_,h, .inr ⟨rfl,rfl⟩⟩
def pK(P:Program)(R:Value->World->Prop):Result Next->Prop
 | .ok (.value x) w'=>R x w'
 | .ok .skip w'=>R undef w'
 | .ok (.enter f args) w'=>Calls P f args w' λe a=>∃x,e= .returned x/\R x a
 | _=>False
def gp(P:Program)(o:Oper)(a:Act)(w:World)(R:Value->World->Prop):Prop:=pK P R ((execOp a.eval o).run P w)
theorem gp.mono{o:Oper}{a:Act}{R b:Value->World->Prop}(h:gp P o a w R)(d:∀x w',R x w'->b x w'):gp P o a w b:=by
 unfold gp at *
 generalize (execOp a.eval o).run P w=r at *
 cases r with
 | ok n w'=>
  cases n <;> simp only [pK] at h⊢
  case enter=>exact h.mono λe i ⟨x,f,g⟩=>⟨x,f,d _ _ g⟩
  all_goals exact d _ _ h
 | halt x w'=>simp [pK] at h
theorem gp.wp{o:Oper}{a:Act}{R:Value->World->Prop}{K:Act->World->Prop}{Q:Exit->Act->World->Prop}(h:gp P o a w R)(b:∀x w',R x w'->K (a.put o.dst x) w'):o.wp P a w K Q:=by
 unfold gp at h;unfold Oper.wp;generalize (execOp a.eval o).run P w=r at *
 cases r with
 | ok n w'=>
  cases n <;> simp only [pK] at h <;> simp only [Oper.upon]
  case enter=>exact h.mono λe g ⟨x,d,f⟩=>by subst d;exact b _ _ f
  all_goals first | exact b _ _ h | exact h.elim
 | halt x w'=>simp [pK] at h
theorem sN{t:TypeId}{d:TypeDesc}(h:P.underlying t=some d):∃i,P.info? t=some i/\P.cellsOf t=i.size:=by
 unfold Program.underlying at h;cases a:P.info? t with
 | none=>simp [a] at h
 | some i=>exact⟨i,rfl,by simp [Program.cellsOf,a]⟩
theorem gL{t:TypeId}(h:bP P t=true)(w:World):(sizeOf t).run P w= .ok (P.cellsOf t) w:=by unfold bP at h;obtain⟨d,a⟩:=MX.1 h;obtain⟨i,b,hs⟩:=sN a;rw [hs];simp [sizeOf,typeInfo,b]
theorem pj{t:TypeId}(h:bP P t=true)(w:World):(isAgg t).run P w= .ok (bt P t) w:=by unfold bP at h;obtain⟨d,a⟩:=MX.1 h;unfold isAgg bt;simp only [LP,run_underlying a,LA,a];cases d <;> rfl
theorem eX(k:IntKind)(n:Int)(w:World)(A:Nat->Prop):ax w A (.int k n) (.int k n):=by simp [ax]
theorem la(b:Bool)(w:World)(A:Nat->Prop):ax w A (.bool b) (.bool b):=by simp [ax]
theorem jC(b:ByteArray)(w:World)(A:Nat->Prop):ax w A (.str b) (.string b):=by simp [ax]
theorem D7{R:Type}{op:BinOp}{k:IntKind}{c:Option Bool}{x y:T}{K:T->Option R}{r:R}{t:TypeId}{j l:Value}(f:c=none\/c=some true)
  (g:ax w A x j) (i:ax w A y l) (h:n7 op k c x y K=some r):
  ∃z m,K z=some r/\(∀w A,ax w A z m)/\(binOp op t j l).run P w= .ok m w:=by
 unfold n7 at h;replace h:=aL h f;obtain⟨a,n,h⟩:=h;replace h:=aL h f;obtain⟨b,o,h⟩:=h;have:=T.eV n;subst this;have:=T.eV o;subst this;simp only [ax] at g i;subst g;subst i;cases op <;> simp only [reduceCtorEq] at h
 case quo=>
  replace h:=aL h f;obtain⟨_,h0,h⟩:=h;have d:b≠0:=by intro e;simp [e] at h0
  exact⟨_,_,h,by first | exact eX _ _ | exact la _ | exact jC _,by simp [binOp,Op.intDiv,d]⟩
 case rem=>
  replace h:=aL h f;obtain⟨_,h0,h⟩:=h;have d:b≠0:=by intro e;simp [e] at h0
  exact⟨_,_,h,by first | exact eX _ _ | exact la _ | exact jC _,by simp [binOp,Op.intDiv,d]⟩
 all_goals exact⟨_,_,h,by first | exact eX _ _ | exact la _ | exact jC _,by simp [binOp,Op.intArith,Op.intBits,Op.intCmp]⟩
theorem KA{R:Type}{op:BinOp}{k ky:IntKind}{c:Option Bool}{x y:T}{K:T->Option R}{r:R}{t:TypeId}{j l:Value}(d:c=none\/c=some true)
  (g:ax w A x j) (i:ax w A y l) (h:po op k ky c x y K=some r):
  ∃z m,K z=some r/\(∀w A,ax w A z m)/\(binOp op t j l).run P w= .ok m w:=by
 unfold po at h;replace h:=aL h d;obtain⟨a,n,h⟩:=h;replace h:=aL h d;obtain⟨b,o,h⟩:=h;have:=T.eV n;subst this;have:=T.eV o;subst this;simp only [ax] at g i;subst g;subst i;replace h:=aL h d;obtain⟨_,h0,h⟩:=h;have f:¬b < 0:=by intro e;simp [e] at h0
 cases op <;> simp only [reduceCtorEq] at h
 all_goals exact⟨_,_,h,by first | exact eX _ _ | exact la _ | exact jC _,by simp [binOp,Op.shift,f]⟩
theorem KU{R:Type}{op:BinOp}{c:Option Bool}{x y:T}{K:T->Option R}{r:R}{t:TypeId}{j k:Value}(d:c=none\/c=some true)
  (g:ax w A x j) (i:ax w A y k) (h:px op c x y K=some r):
  ∃z l,K z=some r/\(∀w A,ax w A z l)/\(binOp op t j k).run P w= .ok l w:=by
 unfold px at h;replace h:=aL h d;obtain⟨a,m,h⟩:=h;replace h:=aL h d;obtain⟨b,n,h⟩:=h;have:=T.iL m;subst this;have:=T.iL n;subst this;simp only [ax] at g i;subst g;subst i;cases op <;> simp only [reduceCtorEq] at h
 case add=>
  replace h:=aL h d;obtain⟨_,h0,h⟩:=h;have o:a.size+b.size<=4294967296:=by
   by_cases e:a.size+b.size<=4294967296
   .exact e
   .simp [e] at h0
  have f:¬(((a.size+b.size:Nat):Int) > i64.max):=by
   have:i64.max=9223372036854775807:=by decide
   rw [this];omega
  exact⟨_,_,h,by first | exact eX _ _ | exact la _ | exact jC _,by simp only [binOp,Op.stringOp,if_neg f];rfl⟩
 all_goals exact⟨_,_,h,by first | exact eX _ _ | exact la _ | exact jC _,by simp [binOp,Op.stringOp]⟩
theorem Ee{R:Type}{op:BinOp}{t ty:TypeId}{c:Option Bool}{x y:T}{K:T->Option R}{r:R}{e f:Value}(a:c=none\/c=some true)
  (b:ax w A x e) (d:ax w A y f) (h:n9 P op t ty c x y K=some r):
  (op≠ .eql/\op≠ .neq)/\∃z g,K z=some r/\(∀w A,ax w A z g)/\(binOp op t e f).run P w= .ok g w:=by
 unfold n9 at h;cases op <;> simp only [reduceCtorEq] at h <;> refine⟨⟨by simp,by simp⟩, ?_⟩ <;> split at h <;> first | exact D7 a b d h | exact KA a b d h | exact KU a b d h | simp at h
theorem K8{R:Type}{op:UnOp}{t:TypeId}{c:Option Bool}{x:T}{K:T->Option R}{r:R}{f:Value}(e:c=none\/c=some true)
  (b:ax w A x f) (h:pD P op t c x K=some r):
  ∃z g,K z=some r/\(∀w A,ax w A z g)/\(Op.unary op f).run P w= .ok g w:=by
 unfold pD at h;split at h
 .replace h:=aL h e;obtain⟨a,d,h⟩:=h;have:=T.eV d;subst this;simp only [ax] at b;subst b;exact⟨_,_,h,by first | exact eX _ _ | exact la _ | exact jC _,by simp [Op.unary,Op.intArith]⟩
 .replace h:=aL h e;obtain⟨a,d,h⟩:=h;have:=T.eV d;subst this;simp only [ax] at b;subst b;exact⟨_,_,h,by first | exact eX _ _ | exact la _ | exact jC _,by simp [Op.unary,Op.intBits]⟩
 .replace h:=aL h e;obtain⟨a,d,h⟩:=h;have:=T.gy d;subst this;simp only [ax] at b;subst b;exact⟨_,_,h,by first | exact eX _ _ | exact la _ | exact jC _,by simp [Op.unary]⟩
 .simp at h
theorem Gu{R:Type}{d:Nat}{t:TypeId}{c:Option Bool}{x y:T}{K:Bool->Option R}{r:R}{m n:Value}(e:c=none\/c=some true)
  (f:ax w A x m) (g:ax w A y n) (h:jt P c t x y K=some r):∃b,K b=some r/\(Op.equalIn (d+1) t m n).run P w= .ok b w:=by
 unfold jt at h;split at h
 .rename_i k l;replace h:=aL h e;obtain⟨a,i,h⟩:=h;replace h:=aL h e;obtain⟨b,j,h⟩:=h;have:=T.eV i;subst this;have:=T.eV j;subst this;simp only [ax] at f g;subst f;subst g;exact⟨_,h,by simp [Op.equalIn,run_underlying l]⟩
 .rename_i l;replace h:=aL h e;obtain⟨a,i,h⟩:=h;replace h:=aL h e;obtain⟨b,j,h⟩:=h;have:=T.gy i;subst this;have:=T.gy j;subst this;simp only [ax] at f g;subst f;subst g;exact⟨_,h,by simp [Op.equalIn,run_underlying l]⟩
 .rename_i l;replace h:=aL h e;obtain⟨a,i,h⟩:=h;replace h:=aL h e;obtain⟨b,j,h⟩:=h;have:=T.iL i;subst this;have:=T.iL j;subst this;simp only [ax] at f g;subst f;subst g;exact⟨_,h,by simp [Op.equalIn,run_underlying l]⟩
 .simp at h
theorem vl{R:Type}{c:Option Bool}(d:List TypeId):∀(ts:List TypeId) (xs a:List T) (K:Bool->Option R),
  dF P c (ts++d) xs a K=dF P c ts (xs.take ts.length) (a.take ts.length) (λq=>dF P c d (xs.drop ts.length) (a.drop ts.length) λe=>K (q && e))
 | [],xs,a,K=>by simp [dF]
 | t::ts,[],a,K=>by simp [dF]
 | t::ts,x::xs,[],K=>by simp [dF]
 | t::ts,x::xs,y::a,K=>by simp only [Mi,LD,NT,List.drop_succ_cons,dF];congr 1;funext b;rw [vl d ts xs a];simp only [Bool.and_assoc]
theorem aQ.take{cs:List T}{vs:List Value}(h:aQ w A cs vs):∀n,aQ w A (cs.take n) (vs.take n):=by
 intro n;induction n generalizing cs vs with
 | zero=>simp [aQ]
 | succ n d=>
  cases cs with
  | nil=>simp only [aQ] at h;subst h;simp [aQ]
  | cons c cs=>obtain⟨v,r,rfl,a,b⟩:=h;exact⟨v,r.take n,rfl,a,d b⟩
theorem aQ.drop{cs:List T}{vs:List Value}(h:aQ w A cs vs):∀n,aQ w A (cs.drop n) (vs.drop n):=by
 intro n;induction n generalizing cs vs with
 | zero=>simpa using h
 | succ n b=>
  cases cs with
  | nil=>simp only [aQ] at h;subst h;simp [aQ]
  | cons c cs=>obtain⟨v,r,rfl,d,a⟩:=h;exact b a
end
open Go Go.IntKind
section
variable {P:Program} {w:World} {A:Nat->Prop}
def iM(P:Program)(t:TypeId)(vs:List Value):Value:=if bt P t=true then .agg vs.toArray else vs.headD undef
theorem qV{t:TypeId}(b:bP P t=true)(xs:Array Value)(off:Nat)(d:bt P t=false->P.cellsOf t=1)(e:off+P.cellsOf t<=xs.size)(w:World):
  (part t xs off).run P w= .ok (iM P t ((xs.toList.drop off).take (P.cellsOf t))) w:=by
 unfold part iM;simp only [LP,pj b,LA];cases f:bt P t
 .simp only [LY,if_false];rw [d f] at e⊢;have a:off < xs.size:=by omega
  have:xs[off]? =some xs[off]:=M8 a;rw [this];have hl:off < xs.toList.length:=by simpa using a
  rw [Nt hl];simp
 .simp only [if_true,LP,gL b,LA,L8];congr 2;apply M5;simp [NJ,NU]
theorem aQ.part{xs:List T}{vs:List Value}(h:aQ w A xs vs)(off n:Nat):aQ w A ((xs.drop off).take n) ((vs.drop off).take n):=(h.drop off).take n
theorem oF{R:Type}{c:Option Bool}(a:c=none\/c=some true):∀{ts:List TypeId} {xs d:List T} {K:Bool->Option R} {r:R},dF P c ts xs d K=some r->xs.length=ts.length/\d.length=ts.length
 | [],[],[],_,_,_=>⟨rfl,rfl⟩
 | t::ts,x::xs,y::d,K,r,h=>by
  simp only [dF] at h;have:∃b,dF P c ts xs d (λr=>K (b && r))=some r:=by
   unfold jt at h;split at h
   .replace h:=aL h a;obtain⟨_,_,h⟩:=h;replace h:=aL h a;obtain⟨_,_,h⟩:=h;exact⟨_,h⟩
   .replace h:=aL h a;obtain⟨_,_,h⟩:=h;replace h:=aL h a;obtain⟨_,_,h⟩:=h;exact⟨_,h⟩
   .replace h:=aL h a;obtain⟨_,_,h⟩:=h;replace h:=aL h a;obtain⟨_,_,h⟩:=h;exact⟨_,h⟩
   .simp at h
  obtain⟨b,g⟩:=this;obtain⟨e,f⟩:=oF a g;simp [e,f]
 | [],[],_::_,_,_,h=>by simp [dF] at h
 | [],_::_,_,_,_,h=>by simp [dF] at h
 | _::_,[],_,_,_,h=>by simp [dF] at h
 | _::_,_::_,[],_,_,h=>by simp [dF] at h
theorem nh{n:Nat}{t:TypeId}{ts:List TypeId}(h:eD P n t=some ts):bP P t=true:=by
 cases n with
 | zero=>simp [eD] at h
 | succ n=>
  simp only [eD] at h;unfold bP;cases a:P.underlying t with
  | none=>simp [a] at h
  | some d=>rfl
theorem Ap{n:Nat}{t:TypeId}{ts:List TypeId}(h:eD P n t=some ts)(a:bt P t=false):ts= [t]:=by
 cases n with
 | zero=>simp [eD] at h
 | succ n=>
  simp only [eD] at h;unfold bt at a;cases b:P.underlying t with
  | none=>simp [b] at h
  | some d=>cases d <;> simp_all
def tY(P:Program)(w:World)(A:Nat->Prop)(n:Nat):Prop:= ∀(t:TypeId) (ts:List TypeId),eD P n t=some ts->∀(d:Nat),n<=d->
 ∀(R:Type) (c:Option Bool),c=none\/c=some true->∀(xs f:List T) (a e:List Value) (K:Bool->Option R) (r:R),aQ w A xs a->aQ w A f e->dF P c ts xs f K=some r->
  ∃b,K b=some r/\(Op.equalIn d t (iM P t a) (iM P t e)).run P w= .ok b w
theorem Ab{n d:Nat}(B:tY P w A n)(z:n<=d){X Y:Array Value}{R:Type}{c:Option Bool}(i:c=none\/c=some true):
  ∀(e:List Field) (off:Nat) (ts:List TypeId),oL P (eD P n) e off=some ts->∀(xs o:List T) (K:Bool->Option R) (r:R),aQ w A xs (X.toList.drop off)->aQ w A o (Y.toList.drop off)->
   dF P c ts xs o K=some r->∃b,K b=some r/\(Op.eqFields d X Y e).run P w= .ok b w
 | [],off,ts,h,xs,o,K,r,k,m,a=>by simp only [oL,Lo] at h;subst h;obtain⟨F,G⟩:=oF i a;have:=LR.1 F;subst this;have:=LR.1 G;subst this;exact⟨true,by simpa [dF] using a,by simp [Op.eqFields]⟩
 | f::e,off,ts,h,xs,o,K,r,k,m,a=>by
  simp only [oL] at h;by_cases j:f.offset=off/\f.name≠ "_"
  .rw [if_pos j] at h;cases hl:eD P n f.type with
   | none=>simp [hl] at h
   | some l=>
    simp only [hl,Lt] at h;by_cases g:P.cellsOf f.type=l.length/\0 < l.length
    .rw [if_pos g] at h;obtain⟨hs,I⟩:=g;cases u:oL P (eD P n) e (off+l.length) with
     | none=>simp [u] at h
     | some q=>
      simp only [u,Lt,Lo] at h;subst h;obtain⟨J,L⟩:=oF i a;simp only [Mw] at J L;rw [vl] at a;obtain⟨v,x,D⟩:=B f.type l hl d z R c i _ _ _ _ _ _ (k.take l.length) (m.take l.length) a;have p:=k.drop l.length;have t:=m.drop l.length;rw [Ol] at p t;obtain⟨C,y,E⟩:=Ab B z i e (off+l.length) q u _ _ _ _ p t x;have sx:=k.length;have M:=m.length;simp only [MG,LU] at sx M;have one:bt P f.type=false->P.cellsOf f.type=1:=λH=>by rw [hs,Ap hl H];rfl
      refine⟨v && C,y, ?_⟩;simp only [Op.eqFields,ne_eq,j.2,not_false_eq_true,if_true,LP];rw [j.1,qV (nh hl) X off one (by rw [hs];omega) w];simp only [LA];rw [qV (nh hl) Y off one (by rw [hs];omega) w];simp only [LA,hs,D];cases v
      .simp
      .simp [E]
    .rw [if_neg g] at h;simp at h
  .rw [if_neg j] at h;simp at h
theorem Ac{n d:Nat}(D:tY P w A n)(C:n<=d){X Y:Array Value}{R:Type}{c:Option Bool}(i:c=none\/c=some true){e:TypeId}{l:List TypeId}(hl:eD P n e=some l)(hs:P.cellsOf e=l.length):
  ∀(m k:Nat) (xs p:List T) (K:Bool->Option R) (r:R),aQ w A xs (X.toList.drop (k * P.cellsOf e))->aQ w A p (Y.toList.drop (k * P.cellsOf e))->
   dF P c (List.replicate m l).flatten xs p K=some r->∃b,K b=some r/\(Op.eqItems d e (P.cellsOf e) X Y (List.range' k m)).run P w= .ok b w
 | 0,k,xs,p,K,r,j,o,a=>by obtain⟨F,G⟩:=oF i a;have:=LR.1 F;subst this;have:=LR.1 G;subst this;exact⟨true,by simpa [dF] using a,by simp [Op.eqItems]⟩
 | m+1,k,xs,p,K,r,j,o,a=>by
  simp only [MI,M1] at a;obtain⟨I,J⟩:=oF i a;simp only [Mw] at I J;rw [vl] at a;obtain⟨g,B,f⟩:=D e l hl d C R c i _ _ _ _ _ _ (j.take l.length) (o.take l.length) a;have t:=j.drop l.length;have u:=o.drop l.length;have H:k * P.cellsOf e+l.length= (k+1) * P.cellsOf e:=by rw [hs,Mn]
  rw [Ol,H] at t u;obtain⟨z,q,v⟩:=Ac D C i hl hs m (k+1) _ _ _ _ t u B;have sx:=j.length;have E:=o.length;simp only [MG,LU] at sx E;have one:bt P e=false->P.cellsOf e=1:=λy=>by rw [hs,Ap hl y];rfl
  by_cases h0:l.length=0
  ·
   refine⟨g && z,q, ?_⟩;have x:bt P e=true:=by
    cases y:bt P e
    .have:=one y;omega
    .rfl
   have L:∀(Z:Array Value) (w:World),(part e Z (k * P.cellsOf e)).run P w= .ok (iM P e []) w:=by intro Z w;unfold part iM;simp only [LP,pj (nh hl),LA,x,if_true,gL (nh hl),L8,hs,h0];simp
   simp only [NK,Op.eqItems,LP,L,LA];rw [h0] at f;simp only [OB] at f;rw [f];cases g
   .simp
   .simp [v]
  .refine⟨g && z,q, ?_⟩;simp only [NK,Op.eqItems,LP];rw [qV (nh hl) X _ one (by rw [hs] at sx⊢;omega) w];simp only [LA];rw [qV (nh hl) Y _ one (by rw [hs] at E⊢;omega) w];simp only [LA,hs];rw [hs] at f v;simp only [f,LA];cases g
   .simp
   .simp [v]
theorem vo:∀n,tY P w A n
 | 0=>by intro t ts h;simp [eD] at h
 | n+1=>by
  intro t ts h d Y R c k xs o V W K r B C j;obtain⟨d,rfl⟩:∃N,d=N+1:=⟨d - 1,by omega⟩;have M:=vo n;simp only [eD] at h;have a:bt P t=false->ts= [t]->∃b,K b=some r/\(Op.equalIn (d+1) t (iM P t V) (iM P t W)).run P w= .ok b w:=by
   intro T L;subst L;obtain⟨D,E⟩:=oF k j;cases xs with
   | nil=>simp at D
   | cons x xs=>cases o with
    | nil=>simp at E
    | cons y o=>simp only [LD,LS,L5,Nat.add_eq_right,LR] at D E;subst D;subst E;obtain⟨v,q,rfl,Q,hq⟩:=B;obtain⟨u,p,rfl,S,Z⟩:=C;simp only [dF,Nc] at j;simpa [iM,T] using Gu (d:=d) k Q S j
  cases f:P.underlying t with
  | none=>simp [f] at h
  | some ds=>
   cases ds <;> simp only [f,reduceCtorEq,Lo] at h
   case int=>exact a (by simp [bt,f]) h.symm
   case bool=>exact a (by simp [bt,f]) h.symm
   case string=>exact a (by simp [bt,f]) h.symm
   case struct F=>
    split at h
    .simp at h
    .rename_i J;have g:bt P t=true:=by simp [bt,f]
     have H:P.underlying t=some (.struct (P.fieldsOf t)):=by simp [Program.fieldsOf,f]
     have I:P.fieldsOf t=F:=by simp [Program.fieldsOf,f]
     simp only [iM,g,if_true];rw [run_equalIn_struct w d t _ _ H (by simpa using J),I];exact Ab M (by omega) k F.toList 0 ts h xs o K r (by simpa using B) (by simpa using C) j
   case array m e=>
    cases hl:eD P n e with
    | none=>simp [hl] at h
    | some l=>
     simp only [hl,Lt] at h;split at h
     .rename_i hs;simp only [Lo] at h;subst h;have g:bt P t=true:=by simp [bt,f]
      have z:=nh hl;unfold bP at z;obtain⟨X,G⟩:=MX.1 z;obtain⟨i,U,_⟩:=sN G;simp only [iM,g,if_true];rw [run_equalIn_array w d _ _ f U,Ob];exact Ac M (by omega) k hl hs m 0 xs o K r (by simpa using B) (by simpa using C) j
     .simp at h
theorem zZ{R:Type}{ρ:Id->Option Value}{t:TypeId}{c:Option Bool}{x y:AV}{K:Bool->Option R}{r:R}{v z:Value}(l:c=none\/c=some true)
  (f:ah w A ρ x v) (g:ah w A ρ y z) (h:na P c t x y K=some r) (B C:Operand):
  ∃b,K b=some r/\((eqGuard .eql t B C v z).run P w= .ok () w/\(binOp .eql t v z).run P w= .ok (.bool b) w)/\((eqGuard .neq t B C v z).run P w= .ok () w/\(binOp .neq t v z).run P w= .ok (.bool (!b)) w):=by
 unfold na at h;split at h
 .rename_i x y;simp only [ah] at f g;cases p:vM P t
  .simp only [p,cond_false] at h;have d:=h;unfold jt at d;split at d
   .rename_i k u;replace d:=aL d l;obtain⟨a,o,d⟩:=d;replace d:=aL d l;obtain⟨b,j,d⟩:=d;have:=T.eV o;subst this;have:=T.eV j;subst this;simp only [ax] at f g;subst f;subst g;exact⟨_,d,⟨by simp [eqGuard],by simp [binOp,Op.intCmp]⟩,⟨by simp [eqGuard],by simp [binOp,Op.intCmp,bne]⟩⟩
   .rename_i u;replace d:=aL d l;obtain⟨a,o,d⟩:=d;replace d:=aL d l;obtain⟨b,j,d⟩:=d;have:=T.gy o;subst this;have:=T.gy j;subst this;simp only [ax] at f g;subst f;subst g;exact⟨_,d,⟨by simp [eqGuard],run_eql_bool w t a b u⟩,⟨by simp [eqGuard],run_neq_bool w t a b u⟩⟩
   .rename_i u;simp [vM,u] at p
   .simp at d
  .simp only [p,cond_true] at h;replace h:=aL h l;obtain⟨a,o,h⟩:=h;replace h:=aL h l;obtain⟨b,j,h⟩:=h;have:=T.iL o;subst this;have:=T.iL j;subst this;simp only [ax] at f g;subst f;subst g;exact⟨_,h,⟨by simp [eqGuard],by simp [binOp,Op.stringOp]⟩,⟨by simp [eqGuard],by simp [binOp,Op.stringOp]⟩⟩
 .rename_i xs J;cases m:(P.eqGuardType P.depth t || !bt P t)
  .simp only [m,cond_false] at h;simp only [MZ,On] at m;obtain⟨m,E⟩:=m;cases i:dA xs with
   | none=>simp [i] at h
   | some F=>
    cases n:dA J with
    | none=>simp [i,n] at h
    | some G=>
     cases q:eD P 8 t with
     | none=>simp [i,n,q] at h
     | some ts=>simp only [i,n,q,Lt] at h;simp only [ah] at f g;obtain⟨H,rfl,f,_⟩:=f;obtain⟨I,rfl,g,_⟩:=g;have D:bt P t=true:=E;obtain⟨b,j,e⟩:=vo 8 t ts q 10000 (by omega) R c l F G H I K r (aQ.ja i f) (aQ.ja n g) h;simp only [iM,D,if_true] at e;exact⟨b,j,⟨run_eqGuard_agg w .eql t B C _ _ m,by rw [run_eql_struct,e];rfl⟩,⟨run_eqGuard_agg w .neq t B C _ _ m,by rw [run_neq_struct,e];rfl⟩⟩
  .simp [m] at h
 .simp at h
end
open Go Go.IntKind
section
variable {P:Program} {w w':World} {A A':Nat->Prop} {c:Ctx} {ρ:Id->Option Value} {O:Id->Option Nat} {s:St} {cc:Option Bool}
theorem fm(b o j:Nat):(⟨b,o,none⟩:Addr).add j= ⟨b,o+j,none⟩:=by
 unfold Addr.add;split
 .rename_i h;subst h;rfl
 .rfl
theorem aX.be{ae:Nat}:∀{off:Nat} {cs:List T},aX w A ae off cs->∃vs,aQ w A cs vs/\∀j v,vs[j]? =some v->w.cell? ⟨ae,off+j,none⟩=some v
 | _,[],_=>⟨[],rfl,by simp⟩
 | off,x::cs,h=>by
  simp only [aX] at h;obtain⟨⟨v,i,g⟩,b⟩:=h;obtain⟨vs,d,f⟩:=aX.be b;refine⟨v::vs,⟨v,vs,rfl,g,d⟩, ?_⟩;intro j u a;cases j with
  | zero=>simp at a;subst a;exact i
  | succ j=>
   have:=f j u (by simpa using a);have e:off+1+j=off+ (j+1):=by omega
   rw [e] at this;exact this
theorem aQ.one:∀{cs:List T} {vs:List Value},aQ w A cs vs->∀u∈vs,u.oneCell'=true/\u.cells= #[u]
 | [],vs,h,u,hu=>by simp only [aQ] at h;subst h;cases hu
 | x::cs,vs,⟨v,r,e,a,b⟩,u,hu=>by
  subst e;rcases LC.1 hu with rfl | hu
  .exact a.nC
  .exact aQ.one b u hu
theorem tN{R:Type}(b:cc=none\/cc=some true):∀{n:Nat} {cs:List T} {K:List T->Option R} {r:R},mu cc n cs K=some r->∃l,l=cs.take n/\l.length=n/\K l=some r
 | 0,cs,K,r,h=>⟨[],by simp,rfl,h⟩
 | n+1,cs,K,r,h=>by
  simp only [mu] at h;replace h:=aL h b;obtain⟨x,a,h⟩:=h;obtain⟨l,d,e,f⟩:=tN b h;cases cs with
  | nil=>simp at a
  | cons y cs=>simp only [ME,Lo] at a;subst a;exact⟨y::l,by simp [d],by simp [e],f⟩
theorem xy:∀{n:Nat} {cs l:List AV},kv n cs=some l->l=cs.take n/\l.length=n
 | 0,cs,l,h=>by simp only [kv,Lo] at h;subst h;simp
 | n+1,[],l,h=>by simp [kv] at h
 | n+1,x::cs,l,h=>by
  simp only [kv] at h;cases a:kv n cs with
  | none=>simp [a] at h
  | some q=>simp only [a,Lt,Lo] at h;subst h;obtain⟨b,d⟩:=xy a;exact⟨by simp [b],by simp [d]⟩
theorem xe{t:TypeId}(a:bP P t=true)(d:bt P t=true)(b off:Nat)(vs:List Value)(hl:vs.length=P.cellsOf t)(h:∀j v,vs[j]? =some v->w.cell? ⟨b,off+j,none⟩=some v):
  (loadVar t ⟨b,off,none⟩).run P w= .ok (.agg vs.toArray) w:=by
 unfold loadVar;simp only [LP,pj a,LA,d,if_true,gL a,<-hl];rw [run_loadCells_list w ⟨b,off,none⟩ vs (λj v e=>by rw [fm];exact h j v e)];rfl
theorem tC{t:TypeId}(d:bP P t=true)(a:bt P t=false)(b off:Nat)(v:Value)(h:w.cell? ⟨b,off,none⟩=some v):
  (loadVar t ⟨b,off,none⟩).run P w= .ok v w:=by
 unfold loadVar;simp only [LP,pj d,LA,a,LY,if_false];rw [run_load,h]
theorem mw{R:Type}{k:Ck}{x:T}{v:Value}{K:T->Option R}{r:R}(e:cc=none\/cc=some true)(a:ax w A x v)(h:dY k cc x K=some r):
  ∃y,K y=some r/\ax w A y v:=by
 unfold dY at h;cases k with
 | i k=>simp only at h;replace h:=aL h e;obtain⟨n,d,h⟩:=h;rw [T.eV d] at a;exact⟨_,h,a⟩
 | b=>simp only at h;replace h:=aL h e;obtain⟨n,d,h⟩:=h;rw [T.gy d] at a;exact⟨_,h,a⟩
 | s=>simp only at h;replace h:=aL h e;obtain⟨n,d,h⟩:=h;rw [T.iL d] at a;exact⟨_,h,a⟩
 | l sz=>
  simp only at h;replace h:=aL h e;obtain⟨p,j,h⟩:=h;refine⟨_,h, ?_⟩;rcases T.nw j with rfl | ⟨rfl,g⟩
  .exact a
  .rw [g];simp only [ax] at a⊢;rcases a with⟨f,rfl⟩ | ⟨f,ae,off,sp,rfl⟩
   .exact .inl ⟨f,trivial,rfl⟩
   .exact .inr ⟨f,ae,off,sp,0,rfl,by simp, .inl trivial,trivial⟩
 | x=>exact⟨_,h,a⟩
theorem rm{R:Type}(d:cc=none\/cc=some true):∀{ks:List Ck} {xs:List T} {vs:List Value} {K:List T->Option R} {r:R},aQ w A xs vs->dU cc ks xs K=some r->
  ∃b,K b=some r/\aQ w A b vs
 | [],xs,vs,K,r,a,h=>⟨_,h,a⟩
 | _::_,[],vs,K,r,a,h=>⟨_,h,a⟩
 | k::ks,x::xs,vs,K,r,a,h=>by obtain⟨v,q,rfl,g,i⟩:=a;simp only [dU] at h;obtain⟨y,h,e⟩:=mw d g h;obtain⟨b,h,f⟩:=rm d i h;exact⟨_,h,⟨v,q,rfl,e,f⟩⟩
theorem K0{R:Type}{k:Ck}{x:T}{K:T->Option R}{r:R}(d:cc=none\/cc=some true)(h:dY k cc x K=some r):
  ∃y,K y=some r/\∀(w:World) (A:Nat->Prop) (v:Value),ax w A x v->ax w A y v:=by
 have e:dY k cc x K= (dY k cc x some).bind K:=by rw [lA];rfl
 rw [e] at h;obtain⟨y,f,h⟩:=Lp.1 h;refine⟨y,h,λw A v a=> ?_⟩;obtain⟨z,b,a⟩:=mw d a f;simp only [Lo] at b;subst b;exact a
theorem K1{R:Type}{ks:List Ck}{xs:List T}{K:List T->Option R}{r:R}(d:cc=none\/cc=some true)(h:dU cc ks xs K=some r):
  ∃y,K y=some r/\∀(w:World) (A:Nat->Prop) (vs:List Value),aQ w A xs vs->aQ w A y vs:=by
 have e:dU cc ks xs K= (dU cc ks xs some).bind K:=by rw [pC];rfl
 rw [e] at h;obtain⟨y,f,h⟩:=Lp.1 h;refine⟨y,h,λw A v a=> ?_⟩;obtain⟨z,b,a⟩:=rm d a f;simp only [Lo] at b;subst b;exact a
theorem K3{R:Type}{t:TypeId}{v:AV}{K:AV->Option R}{r:R}(b:cc=none\/cc=some true)(h:kx P cc t v K=some r):
  ∃y,K y=some r/\∀(w:World) (A:Nat->Prop) (ρ:Id->Option Value) (u:Value),ah w A ρ v u->ah w A ρ y u:=by
 unfold kx at h;split at h
 .obtain⟨y,h,g⟩:=K0 b h;exact⟨_,h,λw A ρ u a=>by simp only [ah] at a⊢;exact g w A u a⟩
 .rename_i vs;split at h
  .rename_i l hl;obtain⟨y,h,g⟩:=K1 b h;refine⟨_,h,λw A ρ u a=> ?_⟩;simp only [ah] at a⊢;obtain⟨d,e,f,i⟩:=a;exact⟨d,e,az.jA (g w A d (aQ.ja hl f)),i⟩
  .exact⟨_,h,λw A ρ u a=>a⟩
 .exact⟨_,h,λw A ρ u a=>a⟩
theorem tS{R:Type}(b:cc=none\/cc=some true):∀{ts:List TypeId} {vs:List AV} {K:List AV->Option R} {r:R},gS P cc ts vs K=some r->
  ∃y,K y=some r/\∀(w:World) (A:Nat->Prop) (ρ:Id->Option Value) (us:List Value),az w A ρ vs us->az w A ρ y us
 | [],vs,K,r,h=>⟨_,h,λw A ρ u a=>a⟩
 | _::_,[],K,r,h=>⟨_,h,λw A ρ u a=>a⟩
 | t::ts,v::vs,K,r,h=>by simp only [gS] at h;obtain⟨y,h,d⟩:=K3 b h;obtain⟨j,h,f⟩:=tS b h;refine⟨_,h,λw A ρ us a=> ?_⟩;simp only [az] at a⊢;obtain⟨u,q,e,g,i⟩:=a;exact⟨u,q,e,d w A ρ u g,f w A ρ q i⟩
theorem sV{R:Type}{t:TypeId}(n:bP P t=true){b off:Nat}{cs:List T}{K:AV->Option R}{r:R}(e:cc=none\/cc=some true)(B:aX w A b off cs)(h:iX P t cc cs K=some r):
  ∃i v,K i=some r/\(loadVar t ⟨b,off,none⟩).run P w= .ok v w/\ah w A ρ i v:=by
 obtain⟨vs,k,m⟩:=B.be;unfold iX at h;cases d:bt P t
 .simp only [d,cond_false] at h;replace h:=aL h e;obtain⟨x,g,h⟩:=h;cases cs with
  | nil=>simp at g
  | cons y cs=>simp only [ME,Lo] at g;subst g;obtain⟨v,q,rfl,a,_⟩:=k;obtain⟨z,h,a⟩:=mw e a h;exact⟨_,v,h,tC n d b off v (by simpa using m 0 v rfl),by simpa [ah] using a⟩
 .simp only [d,cond_true] at h;obtain⟨l,hl,u,h⟩:=tN e h;have a:=k.take (P.cellsOf t);rw [<-hl] at a;have o:=a.length;obtain⟨C,h,p⟩:=rm e a h;refine⟨_,_,h,xe n d b off _ (by rw [o,u]) (λj v f=>m j v ?_), ?_⟩
  .rw [Ny] at f;split at f
   .exact f
   .cases f
  .simp only [ah];exact⟨_,rfl,az.jA p,a.one⟩
theorem Hq{R:Type}{t:TypeId}(m:bP P t=true){b off:Nat}{cs:List AV}{vs:List Value}{K:AV->Option R}{r:R}(g:az w A ρ cs vs)(n:∀u∈vs,u.oneCell'=true/\u.cells= #[u])
  (k:∀j v,vs[j]? =some v->w.cell? ⟨b,off+j,none⟩=some v) (h:ke P t cs K=some r):
  ∃i v,K i=some r/\(loadVar t ⟨b,off,none⟩).run P w= .ok v w/\ah w A ρ i v:=by
 unfold ke at h;cases d:bt P t
 .simp only [d,cond_false] at h;cases cs with
  | nil=>simp at h
  | cons y cs=>simp only [ME,Lt] at h;simp only [az] at g;obtain⟨v,q,rfl,a,_⟩:=g;exact⟨_,v,h,tC m d b off v (by simpa using k 0 v rfl),a⟩
 .simp only [d,cond_true] at h;cases f:kv (P.cellsOf t) cs with
  | none=>simp [f] at h
  | some l=>
   simp only [f,Lt] at h;obtain⟨hl,p⟩:=xy f;have a:=g.take (P.cellsOf t);rw [<-hl] at a;have o:=a.length;refine⟨_,_,h,xe m d b off _ (by rw [o,p]) (λj v e=>k j v ?_), ?_⟩
   .rw [Ny] at e;split at e
    .exact e
    .cases e
   .simp only [ah];exact⟨_,rfl,a,λu x=>n u (NL x)⟩
theorem ux{i:Id}{cs:List AV}(hs:HS c w s.h ρ O)(k:s.h i=some (.box cs)):∃b arr t,ρ i=some (.pointer (some ⟨b,0,none⟩))/\O i=some b/\w.heap[b]? =some (.cells arr t (0,0))/\
  az w (AA c w O) ρ cs arr.toList/\(∀u∈arr.toList,u.oneCell'=true/\u.cells= #[u])/\∀j v,arr.toList[j]? =some v->w.cell? ⟨b,j,none⟩=some v:=by
 obtain⟨b,arr,t,d,e,a,f,g⟩:=hs.ae i _ k;refine⟨b,arr,t,d,e,a,f,g,λj v l=> ?_⟩;simp only [World.cell?,a];simpa using l
theorem nK{i:Id}{fz b:Bool}{sz:Nat}{l:List (List T)}(hs:HS c w s.h ρ O)(e:s.h i=some (.sl fz sz b l)):∃v,ρ i=some v/\cx w (AA c w O) sz b l v (λae=>if fz=true then AA c w O ae else O i=some ae):=by obtain⟨v,a,d,_⟩:=hs.ae i _ e;exact⟨v,a,d⟩
theorem ca.get{i:Id}{ae sz col rsz:Nat}:∀{es:List Row} {base k:Nat} {e:Row},ca w A ρ O i ae sz col rsz base es->es[k]? =some e->gq w A ρ O i ae sz col rsz (base+k * sz) e
 | [],_,_,_,_,h=>by simp at h
 | x::es,base,0,e,a,h=>by simp only [Ms,Lo] at h;subst h;simpa using a.1
 | x::es,base,k+1,e,a,h=>by have:=ca.get a.2 (k:=k) (by simpa using h);rw [show base+ (k+1) * sz=base+sz+k * sz by rw [Mn];omega];exact this
theorem ca.own{i:Id}{ae sz col rsz n:Nat}{p:Bool×List (List T)}:∀{es:List Row} {base:Nat},ca w A ρ O i ae sz col rsz base es->cj n es=some p->∃v,ρ (.g i n)=some v/\cx w A rsz p.1 p.2 v (λb=>O (.g i n)=some b)
 | [],_,_,h=>by simp [cj] at h
 | e::es,base,f,h=>by
  unfold cj at h;split at h
  .rename_i en;obtain⟨_,_,_,v,_,d,a⟩:=f.1;rw [h] at a;rw [en] at d a;exact⟨v,d,a⟩
  .exact ca.own f.2 h
theorem tA{i:Id}{b:Bool}{sz col rsz j n:Nat}{es:List Row}{p:Bool×List (List T)}(hs:HS c w s.h ρ O)(f:s.h i=some (.rows b sz col rsz j es))(e:cj n es=some p):
  ∃v,ρ (.g i n)=some v/\cx w (AA c w O) rsz p.1 p.2 v (λb=>O (.g i n)=some b):=by
 obtain⟨a,cap,l,m,o,q,d⟩:=hs.ae i _ f;rcases d with d | ⟨ae,off,arr,t,r,u,x,y,k⟩
 .have:es= []:=LR.1 (by omega);subst this;simp [cj] at e
 .exact k.own e
theorem w8{R:Type}{i:Id}{n:Nat}{K:Nat->Bool->List (List T)->Option R}{r:R}(hs:HS c w s.h ρ O)(e:cc=none\/cc=some true)(h:jG s.h cc i n K=some r):
  ∃rsz b xs v,K rsz b xs=some r/\ρ (.g i n)=some v/\cx w (AA c w O) rsz b xs v (λae=>O (.g i n)=some ae):=by
 unfold jG at h;split at h
 .rename_i f;replace h:=aL h e;obtain⟨p,j,h⟩:=h;obtain⟨v,a,d⟩:=tA hs f j;exact⟨_,_,_,v,h,a,d⟩
 .cases h
theorem gq.be{i:Id}{ae sz col rsz base:Nat}{e:Row}(h:gq w A ρ O i ae sz col rsz base e):∃vs:List Value,vs.length=sz/\(∀j v,vs[j]? =some v->w.cell? ⟨ae,base+j,none⟩=some v)/\
  (∀j x v,j≠col->e.cs[j]? =some x->vs[j]? =some v->ax w A x v)/\∃v,vs[col]? =some v/\ρ (.g i e.n)=some v:=by
 obtain⟨D,t,l,v,m,y,E⟩:=h;have o:∀j,j < sz->∃u,w.cell? ⟨ae,base+j,none⟩=some u:=by
  intro j a;by_cases d:j=col
  .subst d;exact⟨v,m⟩
  .obtain⟨u,g,_⟩:=l j (e.cs[j]'(by omega)) d (Ly _);exact⟨u,g⟩
 have get:∀j u,((List.range sz).map λj=>(w.cell? ⟨ae,base+j,none⟩).getD undef)[j]? =some u->w.cell? ⟨ae,base+j,none⟩=some u:=by intro j u a;rw [Mz] at a;obtain⟨k,b,a⟩:=Nj.1 a;obtain⟨p,b⟩:=Ls.1 b;rw [List.getElem_range] at b;subst b;obtain⟨C,q⟩:=o j (by simpa using p);rw [q] at a⊢;simpa using a
 refine⟨_,by simp,get,λj x u a B z=> ?_,v, ?_,y⟩
 .obtain⟨C,f,r⟩:=l j x a B;rw [get j u z] at f;cases f;exact r
 .rw [Mz,List.getElem?_range t];simp [m]
theorem az.qG:∀{b:List AV} {vs:List Value},b.length=vs.length->(∀(j:Nat) (a:AV) (v:Value),b[j]? =some a->vs[j]? =some v->ah w A ρ a v)->az w A ρ b vs
 | [],[],_,_=>by simp [az]
 | [],_::_,h,_=>by simp at h
 | _::_,[],h,_=>by simp at h
 | a::b,v::vs,h,d=>by simp only [az];exact⟨v,vs,rfl,d 0 a v rfl rfl,az.qG (by simpa using h) λj a v e f=>d (j+1) a v (by simpa using e) (by simpa using f)⟩
theorem DC{R:Type}(p:cc=none\/cc=some true):∀{ks:List Ck} {xs:List T} {vs:List Value} {col:Nat} {K:List T->Option R} {r:R},xs.length=vs.length->(∀(j:Nat) (x:T) (v:Value),j≠col->xs[j]? =some x->vs[j]? =some v->ax w A x v)->
  (∀k,ks[col]? =some k->k= .x)->dU cc ks xs K=some r->∃b,K b=some r/\b.length=vs.length/\∀j x v,j≠col->b[j]? =some x->vs[j]? =some v->ax w A x v
 | [],xs,vs,col,K,r,hl,d,i,h=>⟨xs,h,hl,d⟩
 | k::ks,[],vs,col,K,r,hl,d,i,h=>⟨[],h,hl,by simp⟩
 | k::ks,x::xs,[],col,K,r,hl,d,i,h=>by simp at hl
 | k::ks,x::xs,v::vs,0,K,r,hl,d,i,h=>by
  simp only [dU] at h;have:k= .x:=i k rfl;subst this;simp only [dY] at h;have D:aQ w A xs vs:=by
   have B:∀(xs:List T) (vs:List Value),xs.length=vs.length->(∀(j:Nat) (x:T) (v:Value),xs[j]? =some x->vs[j]? =some v->ax w A x v)->aQ w A xs vs:=by
    intro xs;induction xs with
    | nil=>intro vs hl _;cases vs;rfl;simp at hl
    | cons x xs z=>
     intro vs hl d;cases vs with
     | nil=>simp at hl
     | cons v vs=>exact⟨v,vs,rfl,d 0 x v rfl rfl,z vs (by simpa using hl) λj x v e f=>d (j+1) x v (by simpa using e) (by simpa using f)⟩
   exact B xs vs (by simpa using hl) λj x v e f=>d (j+1) x v (by omega) (by simpa using e) (by simpa using f)
  obtain⟨b,h,g⟩:=rm p D h;have G:=g.length;refine⟨_,h,by simp;omega,λj y u t m l=> ?_⟩;cases j with
  | zero=>exact(t rfl).elim
  | succ j=>
   simp only [MR] at m l;have:∀(b:List T) (vs:List Value) (j:Nat),aQ w A b vs->b[j]? =some y->vs[j]? =some u->ax w A y u:=by
    intro b;induction b with
    | nil=>intro vs j _ h;simp at h
    | cons a b z=>
     rintro vs j ⟨H,q,rfl,n,o⟩ e f;cases j with
     | zero=>simp at e f;subst e;subst f;exact n
     | succ j=>exact z q j o (by simpa using e) (by simpa using f)
   exact this b vs j g m l
 | k::ks,x::xs,v::vs,col+1,K,r,hl,d,i,h=>by
  simp only [dU] at h;obtain⟨y,h,n⟩:=mw p (d 0 x v (by omega) rfl rfl) h;obtain⟨b,h,o,E⟩:=DC p (col:=col) (by simpa using hl) (λj x v t e f=>d (j+1) x v (by omega) (by simpa using e) (by simpa using f)) (λk C=>i k (by simpa using C)) h;refine⟨_,h,by simp [o],λj F u t m l=> ?_⟩;cases j with
  | zero=>simp at m l;subst m;subst l;exact n
  | succ j=>exact E j F u (by omega) (by simpa using m) (by simpa using l)
theorem Hn{R:Type}{t:TypeId}{i:Id}{ae sz col rsz base off:Nat}{e:Row}{h:Id->Option ab}{K:AV->Option R}{r:R}(hs:HS c w h ρ O)(C:bP P t=true)(o:cc=none\/cc=some true)(m:gq w (AA c w O) ρ O i ae sz col rsz base e)(b:oS P t cc i sz col off e K=some r):
  ∃E v,K E=some r/\(loadVar t ⟨ae,base+off,none⟩).run P w= .ok v w/\ah w (AA c w O) ρ E v:=by
 unfold oS at b;cases g:bt P t
 .simp only [g,cond_false] at b;split at b
  .rename_i d;subst d;obtain⟨_,_,_,v,N,Q,_⟩:=m;exact⟨_,v,b,tC C g _ _ v N,by simp only [ah];exact Q⟩
  .rename_i H;replace b:=aL b o;obtain⟨x,z,b⟩:=b;have I:e.cs[off]? =some x:=by rw [List.head?_drop] at z;exact z
   obtain⟨u,B,n⟩:=m.2.2.1 off x H I;obtain⟨y,b,M⟩:=mw o n b;exact⟨_,u,b,tC C g _ _ u B,by simp only [ah];exact M⟩
 .simp only [g,cond_true] at b;split at b
  .rename_i p;obtain⟨rfl,Y⟩:=p;obtain⟨l,hl,Z,b⟩:=tN o b;have T:=m.1;have G:l=e.cs:=by rw [hl,N4 (by omega)]
   subst G;obtain⟨vs,v1,V,W,vc,J,L⟩:=m.be;have S:=m.2.1;obtain⟨X,b,B,n⟩:=DC o (ks:=(pM P t).set col .x) (col:=col) (by omega) W (λk b=>by
    rw [MJ] at b;simp only [if_true] at b;split at b
    .simpa using b.symm
    .cases b) b
   refine⟨_, .agg vs.toArray,b, ?_, ?_⟩
   .rw [Nx];exact xe C g _ _ vs (by omega) V
   .simp only [ah];refine⟨vs,rfl,az.qG (by simp [B]) λj a v f D=> ?_,λu U=> ?_⟩
    .rw [MJ] at f;by_cases d:col=j
     .subst d;rw [if_pos rfl] at f;split at f
      .simp only [Lo] at f;subst f;rw [J] at D;cases D;simp only [ah];exact L
      .cases f
     .rw [if_neg d,Mz] at f;obtain⟨x,z,rfl⟩:=Nj.1 f;simp only [ah];exact n j x v (λe=>d e.symm) z D
    .obtain⟨j,q⟩:=NG.1 U;by_cases d:j=col
     .subst d;rw [J] at q;cases q;exact hs.gone _ _ _ L
     .have F:j < X.length:=by have:=(Ls.1 q).1;omega
      exact(n j _ u d (Ly F) q).nC
  .cases b
theorem Bp{R:Type}{t:TypeId}{a:AV}{va:Value}{K:AV->Option R}{r:R}(hs:HS c w s.h ρ O)(g:ah w (AA c w O) ρ a va)(m:cc=none\/cc=some true)(h:fj P s cc t a K=some r):
  ∃f v,K f=some r/\(Instr.loadAt t va).run P w= .ok v w/\ah w (AA c w O) ρ f v:=by
 unfold fj at h;cases D:bP P t
 .simp [D] at h
 simp only [D,cond_true] at h;split at h
 .rename_i i off;split at h
  .rename_i cs F;obtain⟨b,arr,W,B,J,h3,U,E,h6⟩:=ux hs F;simp only [ah] at g;obtain⟨b',d,rfl⟩:=g;rw [B] at d;simp only [Lo,MU,Mo] at d;obtain⟨rfl,_⟩:=d;obtain⟨f,v,q,N,Q⟩:=Hq (b:=b) (off:=off) D (U.drop off) (λu hu=>E u (NM hu)) (λj v hj=>h6 _ v (by rw [Nz] at hj;exact hj)) h;exact⟨f,v,q,by simpa [Instr.loadAt,Instr.sureAddr] using N,Q⟩
  .rename_i l F;obtain⟨b,B,J,h3,U⟩:=hs.ae i _ F;simp only [ah] at g;obtain⟨b',d,rfl⟩:=g;rw [B] at d;simp only [Lo,MU,Mo] at d;obtain⟨rfl,_⟩:=d;have E:=U.drop off;rw [L5] at E;obtain⟨f,v,q,N,Q⟩:=sV D m E h;exact⟨f,v,q,by simpa [Instr.loadAt,Instr.sureAddr] using N,Q⟩
  .simp at h
 .rename_i i sz k off;split at h
  .rename_i fz sz' bb xs F;split at h
   .rename_i C;subst C;replace h:=aL h m;obtain⟨cs,p,h⟩:=h;obtain⟨v,B,J⟩:=nK hs F;simp only [ah] at g;obtain⟨b,o,L,cap,d,rfl⟩:=g;rw [B] at d;simp only [Lo] at d;subst d;obtain⟨a',cap',q,N,Q,g4,S⟩:=J;simp only [Mu] at q;obtain⟨rfl,rfl,rfl⟩:=q;have V:k < xs.length:=(Ls.1 p).1;rcases S with S | ⟨ae,off',arr,W,z,X,Y,Z,y⟩
    .omega
    .simp only [Lo,Mo] at z;obtain⟨rfl,rfl,_⟩:=z;obtain⟨_,M⟩:=y.get p;obtain⟨f,v,G,H,I⟩:=sV (ρ:=ρ) D m (M.drop off) h;exact⟨f,v,G,by simpa [Instr.loadAt,Instr.sureAddr] using H,I⟩
   .simp at h
  .rename_i bb sz' col rsz nx es F;split at h
   .rename_i C;subst C;replace h:=aL h m;obtain⟨e,p,h⟩:=h;obtain⟨a,cap,B,J,h3,U,E⟩:=hs.ae i _ F;simp only [ah] at g;obtain⟨b,o,L,cap',d,rfl⟩:=g;rw [B] at d;simp only [Lo,Mu] at d;obtain⟨rfl,rfl,rfl⟩:=d;have V:k < es.length:=(Ls.1 p).1;rcases E with E | ⟨ae,off',arr,W,z,X,Y,Z,y⟩
    .omega
    .simp only [Lo,Mo] at z;obtain⟨rfl,rfl,_⟩:=z;obtain⟨f,v,G,H,I⟩:=Hn hs D m (y.get p) h;exact⟨f,v,G,by simpa [Instr.loadAt,Instr.sureAddr] using H,I⟩
   .simp at h
  .simp at h
 .rename_i i sz n k off;replace h:=w8 hs m h;obtain⟨rsz,bb,xs,v,h,hv,hsl⟩:=h;split at h
  .rename_i C;subst C;replace h:=aL h m;obtain⟨cs,p,h⟩:=h;simp only [ah] at g;obtain⟨b,o,L,cap,d,rfl⟩:=g;rw [hv] at d;simp only [Lo] at d;subst d;obtain⟨a',cap',q,N,Q,g4,S⟩:=hsl;simp only [Mu] at q;obtain⟨rfl,rfl,rfl⟩:=q;have V:k < xs.length:=(Ls.1 p).1;rcases S with S | ⟨ae,off',arr,W,z,X,Y,Z,y⟩
   .omega
   .simp only [Lo,Mo] at z;obtain⟨rfl,rfl,_⟩:=z;obtain⟨_,M⟩:=y.get p;obtain⟨f,v,G,H,I⟩:=sV (ρ:=ρ) D m (M.drop off) h;exact⟨f,v,G,by simpa [Instr.loadAt,Instr.sureAddr] using H,I⟩
  .simp at h
 .rename_i x;replace h:=aL h m;obtain⟨cs,p,h⟩:=h;have:=T.te p;subst this;simp only [ah,ax] at g;obtain⟨ae,off,rfl,B,J⟩:=g;obtain⟨f,v,G,H,I⟩:=sV (ρ:=ρ) D m J h;exact⟨f,v,G,by simpa [Instr.loadAt,Instr.sureAddr] using H,I⟩
 .simp at h
theorem vp{t:TypeId}{f:Nat}{p:Nat×TypeId}(h:p9 P t f=some p):∃a x,P.underlying t=some (.struct a)/\a[f]? =some x/\p= (x.offset,x.type)/\bP P p.2=true:=by
 unfold p9 at h;split at h
 .rename_i a d;split at h
  .rename_i x e;cases b:bP P x.type
   .simp [b] at h
   .simp only [b,cond_true,Lo] at h;subst h;exact⟨a,x,d,e,rfl,b⟩
  .simp at h
 .simp at h
theorem sn{t e:TypeId}(h:kF P t=some e):P.underlying t=some (.slice e)/\bP P e=true:=by
 unfold kF at h;split at h
 .rename_i e' b;cases a:bP P e'
  .simp [a] at h
  .simp only [a,cond_true,Lo] at h;subst h;exact⟨b,a⟩
 .simp at h
theorem x7{t:TypeId}{p:Nat×TypeId}(h:rQ P t=some p):P.underlying t=some (.array p.1 p.2)/\bP P p.2=true:=by
 unfold rQ at h;split at h
 .rename_i n e' b;cases a:bP P e'
  .simp [a] at h
  .simp only [a,cond_true,Lo] at h;subst h;exact⟨b,a⟩
 .simp at h
theorem GD{R:Type}{t:TypeId}{x:AV}{m:Value}{f:Nat}{K:AV->Option R}{r:R}(a:ah w A ρ x m)(C:cc=none\/cc=some true)(h:oI P cc t x f K=some r):
  ∃i v,K i=some r/\(Instr.fieldAt t m f).run P w= .ok v w/\ah w A ρ i v:=by
 unfold oI at h;split at h
 .rename_i off u D;obtain⟨G,y,q,z,l,B⟩:=vp D;simp only [Ma] at l;obtain⟨rfl,rfl⟩:=l;split at h
  .simp at h
  .rename_i F;have d:∀b o,(Instr.fieldAt t (.pointer (some ⟨b,o,none⟩)) f).run P w= .ok (.pointer (some ⟨b,o+y.offset,none⟩)) w:=by
    intro b o;simp [Instr.fieldAt,run_underlying q,z,Instr.sureAddr,fieldPlace,gL B,F,fm]
   split at h
   .rename_i j o;simp only [ah] at a;obtain⟨b,e,rfl⟩:=a;exact⟨_,_,h,d _ _,by simp only [ah];exact⟨b,e,rfl⟩⟩
   .rename_i j sz k o;simp only [ah] at a;obtain⟨b,g,L,cap,e,rfl⟩:=a;exact⟨_,_,h,d _ _,by simp only [ah];exact⟨b,g,L,cap,e,by rw [Ns]⟩⟩
   .rename_i j sz n k o;simp only [ah] at a;obtain⟨b,g,L,cap,e,rfl⟩:=a;exact⟨_,_,h,d _ _,by simp only [ah];exact⟨b,g,L,cap,e,by rw [Ns]⟩⟩
   .rename_i H;replace h:=aL h C;obtain⟨cs,E,h⟩:=h;have:=T.te E;subst this;simp only [ah,ax] at a;obtain⟨ae,o,rfl,g1,p⟩:=a;refine⟨_,_,h,d _ _, ?_⟩;simp only [ah,ax];refine⟨ae,_,rfl, ?_,p.drop _⟩;rcases g1 with rfl | g1
    .exact .inl (by simp)
    .exact .inr g1
   .simp at h
 .simp at h
theorem lX{R:Type}{i:Int}{n:Nat}{K:Option R}{r:R}(d:cc=none\/cc=some true)(h:iB cc i n K=some r): 0<=i/\i < n/\K=some r:=by
 unfold iB at h;replace h:=aL h d;obtain⟨_,a,h⟩:=h;split at a
 .rename_i b;exact⟨b.1,b.2,h⟩
 .simp at a
theorem G4{R:Type}{t:TypeId}{x:AV}{vx:Value}{i:Int}{ki:IntKind}{K:AV->Option R}{r:R}(hs:HS c w s.h ρ O)(d:ah w (AA c w O) ρ x vx)(q:cc=none\/cc=some true)(h:hH P s cc t x i K=some r):
  ∃V v,K V=some r/\(Instr.indexAt t vx (.int ki i)).run P w= .ok v w/\ah w (AA c w O) ρ V v:=by
 unfold hH at h;split at h
 .rename_i e J;obtain⟨M,F⟩:=sn J;have g:∀b o len cap,0<=i->i < (len:Nat)->(Instr.indexAt t (.slice (some ⟨b,o,none⟩) len cap) (.int ki i)).run P w= .ok (.pointer (some ⟨b,o+i.toNat * P.cellsOf e,none⟩)) w:=by
   intro b o len cap h0 f;simp [Instr.indexAt,asIntOf,run_underlying M,h0,f,gL F,fm]
  split at h
  .rename_i j;split at h
   .rename_i fz sz bb xs D;split at h
    .rename_i m;subst m;obtain⟨h0,f,h⟩:=lX q h;obtain⟨v,g1,l⟩:=nK hs D;simp only [ah] at d;rw [g1] at d;simp only [Lo] at d;subst d;obtain⟨I,cap',C,q2,q3,q4,u⟩:=l;rcases u with u | ⟨ae,off',arr,U,B,N,Q,S,G⟩
     .omega
     .subst B;subst C;exact⟨_,_,h,g _ _ _ _ h0 f,by simp only [ah];exact⟨ae,off',_,_,g1,by simp⟩⟩
    .simp at h
   .rename_i bb sz col rsz nx es D;split at h
    .rename_i m;subst m;obtain⟨h0,f,h⟩:=lX q h;obtain⟨a,cap,g1,l,X,g4,H⟩:=hs.ae j _ D;simp only [ah] at d;rw [g1] at d;simp only [Lo] at d;subst d;rcases H with H | ⟨ae,off',arr,U,B,N,Q,S,G⟩
     .omega
     .subst B;exact⟨_,_,h,g _ _ _ _ h0 f,by simp only [ah];exact⟨ae,off',_,_,g1,by simp⟩⟩
    .simp at h
   .simp at h
  .rename_i j n;replace h:=w8 hs q h;obtain⟨rsz,bb,xs,v,h,hv,Z⟩:=h;split at h
   .rename_i m;subst m;obtain⟨h0,f,h⟩:=lX q h;simp only [ah] at d;rw [hv] at d;simp only [Lo] at d;subst d;obtain⟨I,cap',C,q2,q3,q4,u⟩:=Z;rcases u with u | ⟨ae,off',arr,U,B,N,Q,S,G⟩
    .omega
    .subst B;subst C;exact⟨_,_,h,g _ _ _ _ h0 f,by simp only [ah];exact⟨ae,off',_,_,hv,by simp⟩⟩
   .simp at h
  .rename_i j sz off n;split at h
   .rename_i fz sz' bb xs D;split at h
    .rename_i m;obtain⟨rfl,rfl⟩:=m;obtain⟨h0,f,h⟩:=lX q h;obtain⟨v,g1,l⟩:=nK hs D;simp only [ah] at d;obtain⟨a,L,cap,I,z,e2,e3,rfl,e4⟩:=d;rw [g1] at z;simp only [Lo] at z;subst z;obtain⟨a'',cap'',C,q2,q3,q4,u⟩:=l;simp only [Mu] at C;obtain⟨rfl,rfl,rfl⟩:=C;rcases u with u | ⟨ae,off',arr,U,B,N,Q,S,G⟩
     .omega
     .subst B;have ea:I=some ⟨ae,off'+off * P.cellsOf e,none⟩:=by
       rcases e4 with⟨rfl,rfl⟩ | ⟨rfl,_⟩ | ⟨b,o,W,e6⟩
       .simp
       .omega
       .simp only [Lo,Mo] at W;obtain⟨rfl,rfl,_⟩:=W;exact e6
      subst ea;refine⟨_,_,h,g _ _ _ _ h0 f, ?_⟩;simp only [ah];exact⟨ae,off',_,_,g1,by congr 3;rw [Nk];omega⟩
    .simp at h
   .simp at h
  .rename_i y;replace h:=aL h q;obtain⟨p,hp,h⟩:=h;obtain⟨h0,f,h⟩:=lX q h;replace h:=aL h q;obtain⟨cs,E,h⟩:=h;rcases T.nw hp with rfl | ⟨rfl,Y⟩
   .simp only [ah,ax] at d;rcases d with⟨_,e,_⟩ | ⟨_,ae,off,sp,cap,rfl,g1,l,X⟩
    .rw [e] at f;simp at f;omega
    .rcases l with l | ⟨rfl,l⟩
     .rw [l] at E;simp at E
     refine⟨_,_,h,g _ _ _ _ h0 f, ?_⟩;obtain⟨g4,H⟩:=X.get E;simp only [ah,ax];exact⟨ae,_,rfl, .inr l,H⟩
   .rw [Y] at f;simp at f;omega
  .simp at h
 .split at h
  .rename_i n e J;obtain⟨M,F⟩:=x7 J;obtain⟨h0,f,h⟩:=lX q h;have g:∀b o,(Instr.indexAt t (.pointer (some ⟨b,o,none⟩)) (.int ki i)).run P w= .ok (.pointer (some ⟨b,o+i.toNat * P.cellsOf e,none⟩)) w:=by
    intro b o;simp [Instr.indexAt,asIntOf,run_underlying M,Instr.sureAddr,h0,f,gL F,fm]
   split at h
   .rename_i j off;simp only [ah] at d;obtain⟨b,z,rfl⟩:=d;exact⟨_,_,h,g _ _,by simp only [ah];exact⟨b,z,rfl⟩⟩
   .rename_i j sz k off;simp only [ah] at d;obtain⟨b,o',L,cap,z,rfl⟩:=d;exact⟨_,_,h,g _ _,by simp only [ah];exact⟨b,o',L,cap,z,by rw [Ns]⟩⟩
   .rename_i y;replace h:=aL h q;obtain⟨cs,E,h⟩:=h;have:=T.te E;subst this;simp only [ah,ax] at d;obtain⟨ae,o,rfl,g1,l⟩:=d;refine⟨_,_,h,g _ _, ?_⟩;simp only [ah,ax];refine⟨ae,_,rfl, ?_,l.drop _⟩;rcases g1 with rfl | g1
    .exact .inl (by simp)
    .exact .inr g1
   .simp at h
  .simp at h
end
open Go Go.IntKind
section
variable {P:Program} {w w':World} {A A':Nat->Prop} {c:Ctx} {ρ:Id->Option Value} {O:Id->Option Nat} {s:St} {cc:Option Bool}
theorem He{R:Type}{t ty:TypeId}{ts:Array TypeId}{x:AV}{B:Value}{K:AV->Option R}{r:R}(hs:HS c w s.h ρ O)(d:ah w (AA c w O) ρ x B)(l:cc=none\/cc=some true)(h:kP P s cc t x K=some r)
  (g:ts[0]? =some t):∃u v,K u=some r/\(Builtin.len_ ts ty #[B]).run P w= .ok v w/\ah w (AA c w O) ρ u v:=by
 unfold kP at h;split at h
 .rename_i i;split at h
  .rename_i y;replace h:=aL h l;obtain⟨b,C,h⟩:=h;have:=T.iL C;subst this;simp only [ah,ax] at d;subst d;exact⟨_,_,h,by simp [Builtin.len_,g,run_underlying i];rfl,by simp only [ah];exact eX _ _ _ _⟩
  .simp at h
 .rename_i n e i;exact⟨_,_,h,by simp [Builtin.len_,g,run_underlying i];rfl,by simp only [ah];exact eX _ _ _ _⟩
 .rename_i e i;have f:∀a n cap,(Builtin.len_ ts ty #[.slice a n cap]).run P w= .ok (goInt n) w:=by
   intro a n cap;simp [Builtin.len_,g,run_underlying i]
  split at h
  .rename_i j;split at h
   .rename_i fz sz bb xs m;obtain⟨v,k,q,cap',o,Q,S,U,V⟩:=nK hs m;simp only [ah] at d;rw [k] at d;simp only [Lo] at d;subst d;subst o;exact⟨_,_,h,f _ _ _,by simp only [ah];exact eX _ _ _ _⟩
   .rename_i bb sz col rsz N es m;obtain⟨a,cap,k,_⟩:=hs.ae j _ m;simp only [ah] at d;rw [k] at d;simp only [Lo] at d;subst d;exact⟨_,_,h,f _ _ _,by simp only [ah];exact eX _ _ _ _⟩
   .simp at h
  .rename_i j n;replace h:=w8 hs l h;obtain⟨rsz,bb,xs,v,h,E,q,cap',o,_⟩:=h;simp only [ah] at d;rw [E] at d;simp only [Lo] at d;subst d;subst o;exact⟨_,_,h,f _ _ _,by simp only [ah];exact eX _ _ _ _⟩
  .rename_i j sz off n;simp only [ah] at d;obtain⟨a,L,cap,q,F,G,H,rfl,I⟩:=d;exact⟨_,_,h,f _ _ _,by simp only [ah];exact eX _ _ _ _⟩
  .rename_i y;replace h:=aL h l;obtain⟨p,D,h⟩:=h;rcases T.nw D with rfl | ⟨rfl,z⟩
   .simp only [ah,ax] at d;rcases d with⟨_,e,rfl⟩ | ⟨_,ae,off,sp,cap,rfl,k,J,M⟩
    .refine⟨_,_,h,f _ _ _, ?_⟩;simp only [ah,e];exact eX _ _ _ _
    .exact⟨_,_,h,f _ _ _,by simp only [ah];exact eX _ _ _ _⟩
   .simp only [ah,ax] at d;rw [z] at h;rcases d with⟨_,rfl⟩ | ⟨_,ae,off,sp,rfl⟩ <;> exact⟨_,_,h,f _ _ _,by simp only [ah];exact eX _ _ _ _⟩
  .simp at h
 .simp at h
theorem ug{x:T}{n:Int}(h:gz.anyInt x=some n):∃k,x= .int k n:=by cases x <;> simp_all [gz.anyInt]
def gT(b:Option Int)(v:Option Value):Prop:=match b,v with
 | none,none=>True
 | some n,some (.int _ m)=>m=n
 | _,_=>False
theorem uw{R:Type}{a:Act}{g:Option Gs}{o:Option Operand}{K:Option Int->Option R}{r:R}(j:SS w A ρ s.t a.tmps)(i:iO a.tmps g)(e:cc=none\/cc=some true)(h:gz s cc g o K=some r):
  ∃b,K b=some r/\gT b (o.map a.eval):=by
 unfold gz at h;split at h
 .exact⟨none,h,trivial⟩
 .rename_i o;cases d:(s.get g o).t? with
  | none=>simp [d] at h
  | some x=>simp only [d,Lt] at h;replace h:=aL h e;obtain⟨n,f,h⟩:=h;obtain⟨k,rfl⟩:=ug f;have:=SS.get (h:=s.h) j i o;rw [show(⟨s.t,s.h⟩:St)=s from rfl,AV.jJ d] at this;simp only [ah,ax] at this;exact⟨some n,h,by simp [gT,this]⟩
theorem sM{b a n:Int}(h:gE b a n=some ()): 0<=b/\b<=a/\a<=n:=by
 unfold gE at h;split at h
 .assumption
 .simp at h
theorem rz{v:Option Value}(h:gT none v):v=none:=by cases v <;> simp_all [gT]
theorem nU{n:Int}{v:Option Value}(h:gT (some n) v):∃k,v=some (.int k n):=by
 cases v with
 | none=>simp [gT] at h
 | some v=>cases v <;> simp_all [gT]
theorem ph(k:IntKind)(n:Int)(y:Nat)(a:BoundsCode)(h0: 0<=n)(b:n<=y):(Instr.sliceBound (.int k n) y a).run P w= .ok n.toNat w:=run_sliceBound w k n y a h0 b
theorem CN(p:Bool){b f:Option Int}{j i:Option Value}{len cap:Nat}(hl:gT b j)(o:gT f i)(g: 0<=b.getD 0)(d:b.getD 0<=f.getD len)(l:f.getD len<=cap):
  (Instr.sliceBounds p len cap j i none).run P w= .ok ((b.getD 0).toNat,(f.getD len).toNat,cap) w:=by
 cases f with
 | none=>
  have:=rz o;subst this;simp only [Ot] at d l⊢;cases b with
  | none=>have:=rz hl;subst this;simp [Instr.sliceBounds]
  | some n=>obtain⟨k,rfl⟩:=nU hl;simp only [M6] at g d⊢;have e:=ph (P:=P) (w:=w) k n len .sliceB g d;simp [Instr.sliceBounds,e]
 | some m=>
  obtain⟨q,rfl⟩:=nU o;simp only [M6] at d l⊢;have e':∀a,(Instr.sliceBound (.int q m) cap a).run P w= .ok m.toNat w:=λa=>ph q m cap a (by omega) l;cases b with
  | none=>have:=rz hl;subst this;simp [Instr.sliceBounds,e']
  | some n=>obtain⟨k,rfl⟩:=nU hl;simp only [M6] at g d⊢;have e:=ph (P:=P) (w:=w) k n m.toNat .sliceB g (by omega);simp [Instr.sliceBounds,e,e']
theorem KF{R:Type}{t:TypeId}{x:AV}{vx:Value}{g C mx:Option Int}{W V F:Option Value}{K:AV->Option R}{r:R}(hs:HS c w s.h ρ O)(q:ah w (AA c w O) ρ x vx)(M:cc=none\/cc=some true)
  (hl:gT g W) (hh:gT C V) (hm:gT mx F) (h:lu P s cc t x g C mx K=some r):
  ∃av v,K av=some r/\(Instr.sliceAt t vx W V F).run P w= .ok v w/\ah w (AA c w O) ρ av v:=by
 unfold lu at h;split at h
 .rename_i hu;split at h
  .rename_i y;replace h:=aL h M;obtain⟨b,J,h⟩:=h;have:=T.iL J;subst this;simp only [ah,ax] at q;subst q;replace h:=aL h M;obtain⟨_,J,h⟩:=h;obtain⟨D,l,B⟩:=sM J;have hvm:F=none:=by cases F with | none=>rfl | some v=>simp [gT] at hm
   subst hvm;refine⟨_,_,h, ?_,by simp only [ah];exact jC _ _ _⟩;have:=CN (P:=P) (w:=w) false (len:=b.size) (cap:=b.size) hl hh D l B;simp [Instr.sliceAt,Instr.slice,run_underlying hu,this]
  .simp at h
 .rename_i e hu;split at h
  .have hvm:F=none:=by cases F with | none=>rfl | some v=>simp [gT] at hm
   subst hvm
   have z:bP P e=true->∀(a:Option Addr) (len cap:Nat),0<=g.getD 0->g.getD 0<=C.getD len->C.getD len<=cap->
     (Instr.sliceAt t (.slice a len cap) W V none).run P w= .ok (.slice (if cap= (g.getD 0).toNat then a else a.map (·.add ((g.getD 0).toNat * P.cellsOf e))) ((C.getD len).toNat - (g.getD 0).toNat) (cap - (g.getD 0).toNat)) w:=by
    intro f a len cap D l B;have:=CN (P:=P) (w:=w) true hl hh D l B;simp [Instr.sliceAt,Instr.slice,run_underlying hu,this,gL f]
   split at h
   .rename_i j;split at h
    .rename_i fz sz bb xs hj;split at h
     .rename_i S;obtain⟨S,f⟩:=S;subst S;replace h:=aL h M;obtain⟨_,J,h⟩:=h;obtain⟨D,l,B⟩:=sM J;obtain⟨v,H,G,cap',X,q2,q3,q4,Y⟩:=nK hs hj;simp only [ah] at q;rw [H] at q;simp only [Lo] at q;subst q;subst X;refine⟨_,_,h,z f _ _ _ D l (by omega), ?_⟩;simp only [ah];refine⟨G,_,cap',_,H,by omega,q2,rfl, ?_⟩;by_cases e0:(g.getD 0).toNat=0
      .left;refine⟨e0, ?_⟩;rw [e0];split
       .rfl
       .cases G <;> simp [Addr.add]
      .by_cases i:cap'= (g.getD 0).toNat
       .right;left;rw [if_pos i];exact⟨i.symm,NH,q4⟩
       .right;right;rw [if_neg i];rcases Y with Y | ⟨ae,off',arr,t',q6,_⟩
        .omega
        .subst q6;exact⟨ae,off',rfl,by simp [fm]⟩
     .simp at h
    .simp at h
   .rename_i j sz off n;split at h
    .rename_i fz sz' bb xs hj;split at h
     .rename_i S;obtain⟨rfl,rfl,f⟩:=S;replace h:=aL h M;obtain⟨_,J,h⟩:=h;obtain⟨D,l,B⟩:=sM J;simp only [ah] at q;obtain⟨a,L,cap,G,i,e2,e3,rfl,e4⟩:=q;obtain⟨v,H,a'',cap'',X,q2,q3,q4,Y⟩:=nK hs hj;rw [H] at i;simp only [Lo] at i;subst i;simp only [Mu] at X;obtain⟨rfl,rfl,rfl⟩:=X;refine⟨_,_,h,z f _ _ _ D l (by omega), ?_⟩;simp only [ah];refine⟨a,_,cap,_,H,by omega,e3,by congr 1;omega, ?_⟩;by_cases e0:(g.getD 0).toNat=0
      .have:(if cap - off= (g.getD 0).toNat then G else G.map (·.add ((g.getD 0).toNat * P.cellsOf e)))=G:=by
        rw [e0];split
        .rfl
        .cases G <;> simp [Addr.add]
       rw [this,e0,Nx];exact e4
      .by_cases Q:cap - off= (g.getD 0).toNat
       .right;left;rw [if_pos Q];refine⟨by omega, ?_, ?_⟩
        .rcases e4 with⟨_,rfl⟩ | ⟨_,E,_⟩ | ⟨b,o,rfl,rfl⟩
         .exact NH
         .exact E
         .simp
        .trivial
       .right;right;rw [if_neg Q];rcases Y with Y | ⟨ae,off',arr,t',q6,_⟩
        .omega
        .subst q6;rcases e4 with⟨e7,rfl⟩ | ⟨e7,_⟩ | ⟨b,o,E,rfl⟩
         .subst e7;exact⟨ae,off',rfl,by simp [fm]⟩
         .omega
         .exact⟨b,o,E,by simp [fm,Nk,Ns]⟩
     .simp at h
    .simp at h
   .rename_i y;split at h
    .rename_i f;replace h:=aL h M;obtain⟨p,hp,h⟩:=h;replace h:=aL h M;obtain⟨_,J,h⟩:=h;obtain⟨D,l,B⟩:=sM J;rcases T.nw hp with rfl | ⟨rfl,hp2⟩
     .simp only [ah,ax] at q;rcases q with⟨i,e,rfl⟩ | ⟨i,ae,off,sp,cap,rfl,H,I,g3⟩
      .rw [e] at l B h;refine⟨_,_,h,z f _ _ _ (by simpa using D) (by simpa using l) (by simpa using B), ?_⟩;simp only [LS,L9] at l B;have Q:(g.getD 0).toNat=0:=by omega
       have E:(C.getD ((0:Nat):Int)).toNat=0:=by
        have:C.getD ((0:Nat):Int)=C.getD 0:=by simp
        rw [this];omega
       simp only [ah,ax,sub,List.drop_nil,List.take_nil];left;refine⟨i,trivial, ?_⟩;rw [E];simp
      .refine⟨_,_,h,z f _ _ _ D l (by omega), ?_⟩;simp only [ah,ax];right;refine⟨i, ?_⟩;by_cases Q:cap= (g.getD 0).toNat
       .rw [if_pos Q];have E:(C.getD ((p.2.length:Nat):Int)).toNat - (g.getD 0).toNat=0:=by omega
        refine⟨ae,off,sp,cap - (g.getD 0).toNat, ?_, ?_, .inl ?_, ?_⟩
        .simp only [sub,E,OB,LS]
        .simp only [sub,E,OB,LS];omega
        .simp [sub,E]
        .simp [sub,E,aZ]
       .rw [if_neg Q];have N:(sub (g.getD 0) (C.getD ((p.2.length:Nat):Int)) p.2).length= (C.getD ((p.2.length:Nat):Int)).toNat - (g.getD 0).toNat:=by
         simp only [sub,Mp,MG];omega
        rcases I with I | ⟨I,g4⟩
        .have e7:(g.getD 0).toNat=0:=by rw [I] at B;simp only [LS] at B;rw [I] at l;simp only [LS] at l;omega
         refine⟨ae,off,sp,cap - (g.getD 0).toNat, ?_, ?_, .inl (by simp [sub,I]),by simp [sub,I,aZ]⟩
         .rw [N,e7];simp [Addr.add]
         .rw [N];omega
        .subst I;refine⟨ae,off+ (g.getD 0).toNat * P.cellsOf e,none,cap - (g.getD 0).toNat, ?_, ?_, .inr ⟨rfl,g4⟩, ?_⟩
         .rw [N];simp only [M2,fm]
         .rw [N];omega
         .exact(g3.drop _).take _
     .rw [hp2] at l B h;simp only [ah,ax] at q;simp only [LS,L9] at l B;have Q:(g.getD 0).toNat=0:=by omega
      have E:(C.getD ((0:Nat):Int)).toNat=0:=by
       have:C.getD ((0:Nat):Int)=C.getD 0:=by simp
       rw [this];omega
      rcases q with⟨i,rfl⟩ | ⟨i,ae,off,sp,rfl⟩
      .refine⟨_,_,h,z f _ _ _ (by simpa using D) (by simpa using l) (by simpa using B), ?_⟩;simp only [ah,ax,sub,List.drop_nil,List.take_nil];left;refine⟨i,trivial, ?_⟩;rw [E];simp
      .refine⟨_,_,h,z f _ _ _ (by simpa using D) (by simpa using l) (by simpa using B), ?_⟩;simp only [ah,ax,sub,List.drop_nil,List.take_nil,aZ];right;refine⟨i,ae,off,sp,0, ?_,by simp, .inl trivial,trivial⟩;rw [Q,E];simp
    .simp at h
   .simp at h
  .rename_i m;obtain⟨km,rfl⟩:=nU hm
   have z:bP P e=true->g.getD 0=0->C.getD 1=0->m=0->∀(a:Option Addr) (len cap:Nat),
     (Instr.sliceAt t (.slice a len cap) W V (some (.int km m))).run P w= .ok (.slice a 0 0) w:=by
    intro f D l B a len cap;cases C with
    | none=>simp at l
    | some hn=>
     obtain⟨kh,rfl⟩:=nU hh;simp only [M6] at l;subst l;subst B;have i:∀k,(Instr.sliceBound (.int km 0) cap k).run P w= .ok 0 w:=λk=>ph km 0 cap k (by omega) (by omega);have e2:∀k,(Instr.sliceBound (.int kh 0) 0 k).run P w= .ok 0 w:=λk=>ph kh 0 0 k (by omega) (by omega);cases g with
     | none=>have:=rz hl;subst this;simp [Instr.sliceAt,Instr.slice,run_underlying hu,Instr.sliceBounds,i,e2,gL f]
     | some ln=>obtain⟨kl,rfl⟩:=nU hl;simp only [M6] at D;subst D;have e3:∀k,(Instr.sliceBound (.int kl 0) 0 k).run P w= .ok 0 w:=λk=>ph kl 0 0 k (by omega) (by omega);simp [Instr.sliceAt,Instr.slice,run_underlying hu,Instr.sliceBounds,i,e2,e3,gL f]
   have zs:∀{a b d:Int} {u:Unit},tW a b d=some u->a=0/\b=0/\d=0:=by
    intro a b d u U;unfold tW at U;split at U
    .assumption
    .simp at U
   split at h
   .rename_i y;split at h
    .rename_i f;replace h:=aL h M;obtain⟨p,hp,h⟩:=h;replace h:=aL h M;obtain⟨_,U,h⟩:=h;obtain⟨Z,z2,z3⟩:=zs U;rcases T.nw hp with rfl | ⟨rfl,hp2⟩
     .simp only [ah,ax] at q;rcases q with⟨i,e,rfl⟩ | ⟨i,ae,off,sp,cap,rfl,H,I,g3⟩
      .exact⟨_,_,h,z f Z z2 z3 _ _ _,by simp only [ah,ax];exact .inl ⟨i,trivial⟩⟩
      .exact⟨_,_,h,z f Z z2 z3 _ _ _,by simp only [ah,ax];exact .inr ⟨i,ae,off,sp,rfl⟩⟩
     .simp only [ah,ax] at q;rcases q with⟨i,rfl⟩ | ⟨i,ae,off,sp,rfl⟩
      .exact⟨_,_,h,z f Z z2 z3 _ _ _,by simp only [ah,ax];exact .inl ⟨i,trivial⟩⟩
      .exact⟨_,_,h,z f Z z2 z3 _ _ _,by simp only [ah,ax];exact .inr ⟨i,ae,off,sp,rfl⟩⟩
    .simp at h
   .rename_i j;split at h
    .rename_i fz sz bb xs hj;split at h
     .simp at h
     .rename_i f;simp only [Bool.not_eq_false] at f;replace h:=aL h M;obtain⟨_,U,h⟩:=h;obtain⟨Z,z2,z3⟩:=zs U;obtain⟨v,H,G,cap',X,q2,q3,q4,Y⟩:=nK hs hj;simp only [ah] at q;rw [H] at q;simp only [Lo] at q;subst q;subst X;refine⟨_,_,h,z f Z z2 z3 _ _ _, ?_⟩;simp only [ah,ax];cases bb
      .right;cases G with
       | none=>simp at q3
       | some x=>obtain⟨b,o,sp⟩:=x;exact⟨rfl,b,o,sp,rfl⟩
      .left;exact⟨rfl,by rw [q3.2 rfl]⟩
    .simp at h
   .simp at h
 .simp at h
end
open Go Go.IntKind
section
variable {P:Program} {w w':World} {A A':Nat->Prop} {c:Ctx} {ρ:Id->Option Value} {O:Id->Option Nat} {s:St} {cc:Option Bool} {h:Id->Option ab}
def o8(v:AV)(i:Id):Prop:=v= .own i\/(∃sz off n,v= .part i sz off n)\/∃off,v= .ref i off
theorem lr{i:Id}{fz b:Bool}{sz:Nat}{l:List (List T)}(hs:HS c w h ρ O)(e:h i=some (.sl fz sz b l)):∃v,ρ i=some v/\cx w (AA c w O) sz b l v (λae=>if fz=true then AA c w O ae else O i=some ae):=by obtain⟨v,a,d,_⟩:=hs.ae i _ e;exact⟨v,a,d⟩
theorem ku{v:AV}{x:T}{u:Value}(hs:HS c w h ρ O)(e:ah w (AA c w O) ρ v u)(d:cY h v=some x)
  (m:∀b,AA c w O b->A' b) (S:∀i ae,o8 v i->O i=some ae->A' ae):ax w A' x u:=by
 have mono:∀(t:T) (v:Value),ax w (AA c w O) t v->ax w A' t v:=λt v hr=>ax.mono (λb p=>⟨m b p,rfl⟩) t v hr;cases v <;> simp only [cY,reduceCtorEq,Lo] at d
 case t y=>subst d;simp only [ah] at e;exact mono _ _ e
 case own i=>
  split at d
  .rename_i fz sz b xs q;simp only [Lo] at d;subst d;obtain⟨v',N,a,cap,H,W,E,q4,f⟩:=lr hs q;simp only [ah] at e;rw [N] at e;simp only [Lo] at e;subst e;subst H;simp only [ax];cases b with
   | true=>
    left;have:a=none:=E.2 rfl;subst this;rcases f with f | ⟨ae,off,arr,t,z,_⟩
    .have:xs= []:=LR.1 (by omega);subst this;subst f;exact⟨rfl,rfl,rfl⟩
    .cases z
   | false=>
    right;refine⟨rfl, ?_⟩;rcases f with f | ⟨ae,off,arr,t,z,F,q8,q9,D⟩
    .have:xs= []:=LR.1 (by omega);subst this;cases a with
     | none=>simp at E
     | some y=>obtain⟨K,o,sp⟩:=y;exact⟨K,o,sp,cap,rfl,W, .inl rfl,by simp [aZ]⟩
    .subst z;refine⟨ae,off,_,cap,rfl,W, .inr ⟨rfl, ?_⟩,aZ.kR (λb p=>⟨m b p,rfl⟩) ae sz rfl off xs D⟩;cases fz
     .exact S i ae (.inl rfl) (by simpa using F)
     .exact m _ (by simpa using F)
  .simp at d
 case part i sz off n=>
  split at d
  .rename_i fz I b xs q;split at d
   .rename_i hsz;subst hsz;simp only [Lo] at d;subst d;obtain⟨v',N,a,cap,H,W,E,q4,f⟩:=lr hs q;simp only [ah] at e;obtain⟨X,L,cap1,J,g,e2,e3,rfl,Z⟩:=e;rw [N] at g;simp only [Lo] at g;subst g;simp only [Mu] at H;obtain⟨rfl,rfl,rfl⟩:=H;have V:((xs.drop off).take n).length=n:=by simp only [Mp,MG];omega
    simp only [ax,V];have k:J=none↔X=none:=by
     rcases Z with⟨_,rfl⟩ | ⟨_,B,_⟩ | ⟨Y,o,rfl,rfl⟩
     .exact NH
     .exact B
     .simp
    cases b with
    | true=>
     left;have B:X=none:=E.2 rfl;subst B;rcases f with f | ⟨ae,off',arr,t,z,_⟩
     .have M:xs= []:=LR.1 (by omega);subst M;subst f;simp only [LS] at e2;have e7:n=0:=by omega
      subst e7;rw [k.2 rfl];exact⟨rfl,by simp,by congr 1;omega⟩
     .cases z
    | false=>
     right;refine⟨rfl, ?_⟩;by_cases hn:n=0
     .subst hn;cases J with
      | none=>have:=k.1 rfl;simp [this] at E
      | some y=>obtain⟨K,o,sp⟩:=y;exact⟨K,o,sp,_,rfl,by omega, .inl (by simp),by simp [aZ]⟩
     .rcases f with f | ⟨ae,off',arr,t,z,F,q8,q9,D⟩
      .omega
      .subst z;have ea:J=some ⟨ae,off'+off * I,none⟩:=by
        rcases Z with⟨rfl,rfl⟩ | ⟨rfl,_⟩ | ⟨Y,o,B,M⟩
        .simp
        .omega
        .simp only [Lo,Mo] at B;obtain⟨rfl,rfl,_⟩:=B;exact M
       subst ea;refine⟨ae,_,_,_,rfl,by omega, .inr ⟨rfl, ?_⟩,(aZ.kR (λb p=>⟨m b p,rfl⟩) ae I rfl off' xs D).drop off |>.take n⟩;cases fz
       .exact S i ae (.inr (.inl ⟨_,_,_,rfl⟩)) (by simpa using F)
       .exact m _ (by simpa using F)
   .simp at d
  .simp at d
 case ref i off=>
  simp only [ah] at e;obtain⟨Y,g,rfl⟩:=e;split at d
  .rename_i cs q;obtain⟨l,hl,d⟩:=Lp.1 d;simp only [Lo] at d;subst d;obtain⟨b,arr,t',C,G,Q,R,h5,h6⟩:=ux (s:=⟨λ_=>(none, .top),h⟩) hs q;rw [C] at g;simp only [Lo,MU,Mo] at g;obtain⟨rfl,_⟩:=g;simp only [ax];refine⟨b,off,rfl, .inr (S i b (.inr (.inr ⟨_,rfl⟩)) G), ?_⟩;have hT:=aQ.ja hl R;have key:∀(l:List T) (vs:List Value) (off:Nat),aQ w (AA c w O) l vs->(∀j v,vs[j]? =some v->w.cell? ⟨b,off+j,none⟩=some v)->aX w A' b off l:=by
    intro l;induction l with
    | nil=>intro vs off _ _;simp [aX]
    | cons x l ih=>rintro vs off ⟨v,r,rfl,C,G⟩ e;simp only [aX];refine⟨⟨v,by simpa using e 0 v rfl,mono _ _ C⟩,ih r (off+1) G λj u U=> ?_⟩;have:=e (j+1) u (by simpa using U);rw [show off+1+j=off+ (j+1) by omega];exact this
   have:=(key l _ 0 hT λj v U=>by rw [L5];exact h6 j v U).drop off;rwa [L5] at this
  .rename_i l q;simp only [Lo] at d;subst d;obtain⟨b,C,G,Q,R⟩:=hs.ae i _ q;rw [C] at g;simp only [Lo,MU,Mo] at g;obtain⟨rfl,_⟩:=g;simp only [ax];refine⟨b,off,rfl, .inr (m b Q), ?_⟩;have:=(aX.mono (λb p=>⟨m b p,rfl⟩) b Q 0 l R).drop off;rwa [L5] at this
  .simp at d
def Co(v:AV)(i:Id):Prop:=o8 v i\/∃vs,v= .agg vs/\∃u∈vs,o8 u i
theorem C7(hs:HS c w h ρ O)(j:∀b,AA c w O b->A' b):∀{vs:List AV} {xs:List T} {us:List Value},az w (AA c w O) ρ vs us->jg h vs=some xs->
  (∀i ae,(∃u∈vs,o8 u i)->O i=some ae->A' ae)->aQ w A' xs us
 | [],xs,us,e,a,_=>by simp only [jg,Lo] at a;subst a;simpa [az,aQ] using e
 | v::vs,xs,us,e,a,k=>by
  simp only [jg] at a;cases d:cY h v with
  | none=>simp [d] at a
  | some x=>
   cases f:jg h vs with
   | none=>simp [d,f] at a
   | some l=>simp only [d,f,Lt,Lo] at a;subst a;simp only [az] at e;obtain⟨u,r,rfl,m,n⟩:=e;exact⟨u,r,rfl,ku hs m d j (λi ae g=>k i ae ⟨v,Lq,g⟩),C7 hs j n f (λi ae ⟨u,o,g⟩=>k i ae ⟨u,Lr _ o,g⟩)⟩
theorem KH{v:AV}{x:T}{u:Value}(hs:HS c w h ρ O)(b:ah w (AA c w O) ρ v u)(a:cY h v=some x):u.oneCell'=true/\u.cells= #[u]:=
 (ku (A':=λ_=>True) hs b a (λ_ _=>trivial) (λ_ _ _ _=>trivial)).nC
theorem KI{v:AV}{xs:List T}{u:Value}(hs:HS c w h ρ O)(d:ah w (AA c w O) ρ v u)(a:jf h v=some xs)(k:∀b,AA c w O b->A' b)
  (l:∀i ae,Co v i->O i=some ae->A' ae):aQ w A' xs u.cells.toList/\∀y∈u.cells.toList,y.oneCell'=true/\y.cells= #[y]:=by
 have one:∀x,cY h v=some x->xs= [x]->aQ w A' xs u.cells.toList/\∀y∈u.cells.toList,y.oneCell'=true/\y.cells= #[y]:=by intro x e f;subst f;have p:=ku hs d e k (λi ae g=>l i ae (.inl g));have j:=KH hs d e;rw [j.2];exact⟨⟨u,[],rfl,p,rfl⟩,by intro y m;simp at m;subst m;exact j⟩
 cases v
 case agg vs=>simp only [jf] at a;simp only [ah] at d;obtain⟨q,rfl,n,o⟩:=d;refine⟨?_,by simpa [Value.cells] using o⟩;have:=C7 hs k n a (λi ae g=>l i ae (.inr ⟨vs,rfl,g⟩));simpa [Value.cells] using this
 all_goals
  unfold jf at a;obtain⟨x,e,f⟩:=Lp.1 a;exact one x e (Option.some.inj f).symm
def nQ(p:Id×ab)(x:Option ab):Prop:=(∃sz b xs,p.2= .sl true sz b xs/\(x=some (.sl false sz b xs)\/x=some (.sl true sz b xs)))\/
 ∃l,p.2= .ei l/\((∃cs,x=some (.box cs)/\dA cs=some l)\/x=some (.ei l))
def eZ(h:Id->Option ab)(us:aC):Prop:= ∀p∈us,nQ p (h p.1)
theorem nQ.again{i:Id}{b j:ab}{x:Option ab}(p:nQ (i,b) x)(n:nQ (i,j) x):j=b/\nQ (i,j) (some b):=by
 rcases p with⟨sz,bb,xs,d,g1⟩ | ⟨l,d,g1⟩
 .rcases n with⟨f,e,g,a,g2⟩ | ⟨o,a,g2⟩
  .simp only at d a;have:f=sz/\e=bb/\g=xs:=by
    rcases g1 with rfl | rfl <;> rcases g2 with g2 | g2 <;> simp at g2 <;> simp [g2]
   obtain⟨rfl,rfl,rfl⟩:=this;exact⟨by rw [d,a], .inl ⟨_,_,_,a, .inr (by rw [d])⟩⟩
  .rcases g1 with rfl | rfl <;> rcases g2 with⟨cs,g2,_⟩ | g2 <;> simp at g2
 .rcases n with⟨f,e,g,a,g2⟩ | ⟨o,a,g2⟩
  .rcases g2 with rfl | rfl <;> rcases g1 with⟨cs,g1,_⟩ | g1 <;> simp at g1
  .simp only at d a;have:o=l:=by
    rcases g1 with⟨cs,rfl,g1⟩ | rfl
    .rcases g2 with⟨m,g2,k⟩ | g2
     .simp only [Lo,ab.box.injEq] at g2;subst g2;rw [g1] at k;simpa using k.symm
     .simp at g2
    .rcases g2 with⟨m,g2,k⟩ | g2
     .simp at g2
     .simpa using g2.symm
   subst this;exact⟨by rw [d,a], .inr ⟨_,a, .inr (by rw [d])⟩⟩
theorem HS.shut(hs:HS c w h ρ O){i:Id}{b:ab}(m:nQ (i,b) (h i)):
  ∃a,Le w ρ O w ρ a/\HS c w (aG h i (some b)) ρ a/\(∀j,a j=O j\/a j=none)/\a i=none/\∀j,j≠i->a j=O j:=by
 have k:∀(f:Id->Option ab) (v:Option ab),f i=v->aG f i v=f:=by
  intro f v h;funext j;unfold aG;split
  .rename_i e;rw [e,h]
  .rfl
 have rel:∀{x:Option ab},HS c w (aG h i x) ρ (aG O i none)->∃a,Le w ρ O w ρ a/\HS c w (aG h i x) ρ a/\(∀j,a j=O j\/a j=none)/\a i=none/\∀j,j≠i->a j=O j:=by
  intro x p;exact⟨_,Le.release,p,λj=>by
   by_cases e:j=i
   .subst e;right;simp
   .left;exact ao _ _ e,by simp,λj e=>ao _ _ e⟩
 have same:h i=some b->O i=none->∃a,Le w ρ O w ρ a/\HS c w (aG h i (some b)) ρ a/\(∀j,a j=O j\/a j=none)/\a i=none/\∀j,j≠i->a j=O j:=by intro n o;exact⟨O,Le.refl,by rw [k _ _ n];exact hs,λj=> .inl rfl,o,λ_ _=>rfl⟩
 rcases m with⟨sz,bb,xs,e,d⟩ | ⟨l,e,d⟩
 .simp only at e;subst e;rcases d with d | d
  .exact rel (hs.freeze d)
  .obtain⟨_,_,_,g⟩:=hs.ae i _ d;exact same d (g rfl)
 .simp only at e;subst e;rcases d with⟨cs,d,hl⟩ | d
  .exact rel (hs.GJ d hl)
  .obtain⟨_,_,g,_⟩:=hs.ae i _ d;exact same d g
theorem qe(v:AV):eZ h (fu h v):=by
 intro p a;unfold fu at a;split at a
 .split at a
  .rename_i i sz b xs d;simp only [Lz] at a;subst a;exact .inl ⟨sz,b,xs,rfl, .inl d⟩
  .cases a
 .split at a
  .rename_i i _ _ _ sz b xs d;simp only [Lz] at a;subst a;exact .inl ⟨sz,b,xs,rfl, .inl d⟩
  .cases a
 .split at a
  .rename_i i _ cs d;split at a
   .rename_i l hl;simp only [Lz] at a;subst a;exact .inr ⟨l,rfl, .inl ⟨cs,d,hl⟩⟩
   .cases a
  .cases a
 .cases a
theorem eZ.append{us vs:aC}(b:eZ h us)(d:eZ h vs):eZ h (us++vs):=by
 intro p a;rcases LI.1 a with a | a
 .exact b p a
 .exact d p a
theorem vw:∀(vs:List AV),eZ h (jW h vs)
 | []=>by intro p a;cases a
 | v::vs=>(qe v).append (vw vs)
theorem vB(v:AV):eZ h (fi h v):=by
 unfold fi;split
 .exact vw _
 .exact qe v
theorem HS.Av:∀{us:aC} {h:Id->Option ab} {O:Id->Option Nat},HS c w h ρ O->eZ h us->
  ∃O',Le w ρ O w ρ O'/\HS c w (aI h us) ρ O'/\(∀i,O' i=O i\/O' i=none)/\(∀p∈us,O' p.1=none)/\∀i,(∀p∈us,p.1≠i)->O' i=O i
 | [],h,O,hs,_=>⟨O,Le.refl,hs,λi=> .inl rfl,by simp,λ_ _=>rfl⟩
 | (i,b)::us,h,O,hs,d=>by
  have k:=d (i,b) Lq;obtain⟨C,o,q,r,t,u⟩:=hs.shut k;have g:eZ (aG h i (some b)) us:=by
   intro p a;have f:=d p (Lr _ a);by_cases e:p.1=i
   .obtain⟨j,x⟩:=p;simp only at e f;subst e;rw [aB];exact(k.again f).2
   .rw [ao _ _ e];exact f
  obtain⟨n,v,y,m,z,B⟩:=HS.Av q g;refine⟨n,o.trans v,y,λj=> ?_,λp a=> ?_,λj l=> ?_⟩
  .rcases m j with e | e
   .rw [e];exact r j
   .exact .inr e
  .rcases LC.1 a with rfl | a
   .rcases m i with e | e
    .rw [e];exact t
    .exact e
   .exact z p a
  .rw [B j (λp a=>l p (Lr _ a)),u j (λe=>l (i,b) Lq e.symm)]
theorem sH(hs:HS c w h ρ O){v:AV}{x:T}(a:cY h v=some x){i:Id}{ae:Nat}(d:o8 v i)(ho:O i=some ae):∃p∈fu h v,p.1=i:=by
 rcases d with rfl | ⟨sz,off,n,rfl⟩ | ⟨off,rfl⟩
 .simp only [cY] at a;split at a
  .rename_i fz sz b xs d;cases fz
   .exact⟨(i, .sl true sz b xs),by simp [fu,d],rfl⟩
   .obtain⟨_,_,_,e⟩:=hs.ae i _ d;rw [e rfl] at ho;cases ho
  .simp at a
 .simp only [cY] at a;split at a
  .rename_i fz f b xs d;cases fz
   .exact⟨(i, .sl true f b xs),by simp [fu,d],rfl⟩
   .obtain⟨_,_,_,e⟩:=hs.ae i _ d;rw [e rfl] at ho;cases ho
  .simp at a
 .simp only [cY] at a;split at a
  .rename_i cs d;obtain⟨l,hl,_⟩:=Lp.1 a;exact⟨(i, .ei l),by simp [fu,d,hl],rfl⟩
  .rename_i l d;obtain⟨_,_,e,_⟩:=hs.ae i _ d;rw [e] at ho;cases ho
  .simp at a
theorem Az(hs:HS c w h ρ O):∀{vs:List AV} {xs:List T},jg h vs=some xs->∀{i:Id} {ae:Nat},(∃u∈vs,o8 u i)->O i=some ae->∃p∈jW h vs,p.1=i
 | [],_,_,i,ae,⟨u,hu,_⟩,_=>by cases hu
 | v::vs,xs,a,i,ae,⟨u,hu,g⟩,ho=>by
  simp only [jg] at a;cases b:cY h v with
  | none=>simp [b] at a
  | some x=>
   cases f:jg h vs with
   | none=>simp [b,f] at a
   | some l=>
    rcases LC.1 hu with rfl | hu
    .obtain⟨p,d,e⟩:=sH hs b g ho;exact⟨p,LH _ d,e⟩
    .obtain⟨p,d,e⟩:=Az hs f ⟨u,hu,g⟩ ho;exact⟨p,LF _ d,e⟩
theorem GM(hs:HS c w h ρ O){v:AV}{xs:List T}(b:jf h v=some xs){i:Id}{ae:Nat}(a:Co v i)(ho:O i=some ae):∃p∈fi h v,p.1=i:=by
 rcases a with a | ⟨vs,rfl,a⟩
 .have:∃x,cY h v=some x:=by
   rcases a with rfl | ⟨_,_,_,rfl⟩ | ⟨_,rfl⟩ <;> exact(Lp.1 b).elim λx d=>⟨x,d.1⟩
  obtain⟨x,d⟩:=this;obtain⟨p,f,e⟩:=sH hs d a ho;refine⟨p, ?_,e⟩;rcases a with rfl | ⟨_,_,_,rfl⟩ | ⟨_,rfl⟩ <;> exact f
 .exact Az hs b a ho
theorem xp{v:AV}{xs:List T}{u:Value}{O':Id->Option Nat}(hs:HS c w h ρ O)(o:ah w (AA c w O) ρ v u)(f:jf h v=some xs)(le:Le w ρ O w ρ O')(g:∀i,O' i=O i\/O' i=none)
  (l:∀p∈fi h v,O' p.1=none):aQ w (AA c w O') xs u.cells.toList/\∀y∈u.cells.toList,y.oneCell'=true/\y.cells= #[y]:=by
 refine KI hs o f (λb k=>(le.A b k).1) (λi ae m ho=> ?_);obtain⟨p,n,e⟩:=GM hs f m ho;refine⟨.inr (hs.own i ae ho),hs.lt i ae ho,λj a=> ?_⟩;rcases g j with d | d
 .rw [d] at a;have:=hs.inj j i ae a ho;subst this;have:=l p n;rw [e,d,a] at this;cases this
 .rw [d] at a;cases a
theorem iG(hs:HS c w h ρ O){i:Id}{u:Value}(e:ρ i=some u):u.oneCell'=true/\u.cells= #[u]:=by
 cases j:h i with
 | none=>
  cases k:i.real with
  | true=>rw [(hs.cf i k j).1] at e;cases e
  | false=>
   cases i with
   | g i n=>exact hs.gone i n u e
   | _=>cases k
 | some b=>
  have:=hs.ae i b j;cases b with
  | box cs=>obtain⟨b,_,_,d,_⟩:=this;rw [e] at d;simp only [Lo] at d;subst d;exact⟨rfl,rfl⟩
  | sl fz sz b xs=>obtain⟨v,d,⟨a,cap,f,_⟩,_⟩:=this;rw [e] at d;simp only [Lo] at d;subst d;subst f;exact⟨rfl,rfl⟩
  | ei l=>obtain⟨b,d,_⟩:=this;rw [e] at d;simp only [Lo] at d;subst d;exact⟨rfl,rfl⟩
  | mp ag ks vk es=>obtain⟨b,_,_,d,_⟩:=this;rw [e] at d;simp only [Lo] at d;subst d;exact⟨rfl,rfl⟩
  | arr cs=>obtain⟨b,_,_,d,_⟩:=this;rw [e] at d;simp only [Lo] at d;subst d;exact⟨rfl,rfl⟩
  | rows b sz col rsz m es=>obtain⟨a,cap,d,_⟩:=this;rw [e] at d;simp only [Lo] at d;subst d;exact⟨rfl,rfl⟩
  | dead=>obtain⟨⟨v,d,f⟩,_⟩:=this;rw [e] at d;simp only [Lo] at d;subst d;exact f
theorem Jb(hs:HS c w h ρ O){v:AV}{u:Value}(a:ah w A ρ v u)(d:mS v=true):u.oneCell'=true/\u.cells= #[u]:=by
 cases v <;> simp only [mS,LY] at d <;> simp only [ah] at a
 case t=>exact a.nC
 case ref=>obtain⟨b,_,rfl⟩:=a;exact⟨rfl,rfl⟩
 case el=>obtain⟨_,_,_,_,_,rfl⟩:=a;exact⟨rfl,rfl⟩
 case own=>exact iG hs a
 case part=>obtain⟨_,_,_,_,_,_,_,rfl,_⟩:=a;exact⟨rfl,rfl⟩
 case row=>exact hs.gone _ _ _ a
 case rel=>obtain⟨_,_,_,_,_,rfl⟩:=a;exact⟨rfl,rfl⟩
 case fn=>obtain⟨_,_,rfl,_⟩:=a;exact⟨rfl,rfl⟩
theorem rU(hs:HS c w h ρ O){v:AV}{u:Value}(a:ah w A ρ v u)(g:(ff v).all mS=true):az w A ρ (ff v) u.cells.toList/\∀y∈u.cells.toList,y.oneCell'=true/\y.cells= #[y]:=by
 have one:ff v= [v]->az w A ρ (ff v) u.cells.toList/\∀y∈u.cells.toList,y.oneCell'=true/\y.cells= #[y]:=by intro e;rw [e] at g⊢;simp only [MN,List.all_nil,Nc] at g;have d:=Jb hs a g;rw [d.2];refine⟨by simp only [az];exact⟨u,[],rfl,a,rfl⟩, ?_⟩;intro y b;simp at b;subst b;exact d
 cases v
 case agg vs=>simp only [ah] at a;obtain⟨j,rfl,d,i⟩:=a;exact⟨by simpa [ff,Value.cells] using d,by simpa [Value.cells] using i⟩
 case fn f x y=>
  cases x with
  | cons _ _=>exact one rfl
  | nil=>cases y with
   | cons _ _=>exact one rfl
   | nil=>simp only [ah,az] at a;obtain⟨k,l,rfl,rfl,rfl⟩:=a;refine⟨by simp [ff,Value.cells,az,ah,ax], ?_⟩;intro y b;simp [Value.cells] at b;subst b;exact⟨rfl,rfl⟩
 all_goals exact one rfl
end
open Go Go.IntKind
section
variable {P:Program} {w w':World} {A A':Nat->Prop} {c:Ctx} {ρ:Id->Option Value} {O:Id->Option Nat} {s:St} {cc:Option Bool} {h:Id->Option ab}
theorem pS{b:Nat}{arr:Array Value}{t:TypeId}{a:Nat×Nat}(d:w.heap[b]? =some (.cells arr t a))(cs:Array Value)(p:Nat):(w.setRow b cs).cell? ⟨b,p,none⟩=cs[p]?:=by simp only [World.cell?,setRow_heap w b arr cs t a d];rfl
theorem iS{b:Nat}{arr:Array Value}{t:TypeId}{a:Nat×Nat}(d:w.heap[b]? =some (.cells arr t a))(p:Nat):w.cell? ⟨b,p,none⟩=arr[p]?:=by simp only [World.cell?,d];rfl
theorem nJ(w:World)(b:Nat)(cs:Array Value):(w.setRow b cs).heap.size=w.heap.size:=by simp [World.setRow]
theorem o9{e:Type}(off:Nat)(new a:List e)(hl:off+new.length<=a.length)(p:Nat):(bZ off new a)[p]? =if off<=p/\p < off+new.length then new[p - off]? else a[p]?:=by
 unfold bZ;rw [LV];have b:(a.take off).length=off:=by rw [Mp];omega
 by_cases h:p < off
 .rw [LL (by omega),if_neg (by omega),Ny,if_pos h]
 .rw [L7 (by omega),b];by_cases d:p < off+new.length
  .rw [LL (by omega),if_pos ⟨by omega,d⟩]
  .rw [L7 (by omega),if_neg (by omega),Nz];congr 1;omega
theorem nI{b:Type}(off:Nat)(new a:List b)(hl:off+new.length<=a.length):(bZ off new a).length=a.length:=by simp only [bZ,Mw,Mp,MG];omega
theorem aX.jb{ae:Nat}:∀{l:List T} {vs:List Value} {off:Nat},aQ w A l vs->(∀j v,vs[j]? =some v->w.cell? ⟨ae,off+j,none⟩=some v)->aX w A ae off l
 | [],_,_,_,_=>by simp [aX]
 | x::l,vs,off,⟨v,r,e,b,d⟩,a=>by subst e;simp only [aX];refine⟨⟨v,by simpa using a 0 v rfl,b⟩,aX.jb d λj u f=> ?_⟩;have:=a (j+1) u (by simpa using f);rw [show off+1+j=off+ (j+1) by omega];exact this
theorem aX.cells{ae:Nat}(a:∀b,A b->A' b/\w'.heap[b]? =w.heap[b]?):∀{cs:List T} {off:Nat},(∀j,j < cs.length->w'.cell? ⟨ae,off+j,none⟩=w.cell? ⟨ae,off+j,none⟩)->aX w A ae off cs->aX w' A' ae off cs
 | [],_,_,_=>by simp [aX]
 | x::cs,off,d,e=>by
  simp only [aX] at e⊢;obtain⟨⟨v,f,g⟩,i⟩:=e;refine⟨⟨v, ?_,ax.mono a x v g⟩,aX.cells a (λj k=> ?_) i⟩
  .have:=d 0 (by simp);simp only [Nx] at this;rw [this];exact f
  .have:=d (j+1) (by simp;omega);rw [show off+1+j=off+ (j+1) by omega];exact this
theorem aX.append{ae:Nat}:∀{a b:List T} {off:Nat},aX w A ae off a->aX w A ae (off+a.length) b->aX w A ae off (a++b)
 | [],b,off,_,h=>by simpa using h
 | x::a,b,off,h,d=>by
  simp only [aX,Mi] at h⊢;refine⟨h.1,aX.append h.2 ?_⟩;have:off+1+a.length=off+ (x::a).length:=by simp;omega
  rw [this];exact d
theorem aX.take{ae:Nat}:∀{cs:List T} {off:Nat},aX w A ae off cs->∀n,aX w A ae off (cs.take n)
 | _,_,_,0=>by simp [aX]
 | [],_,_,n+1=>by simp [aX]
 | x::cs,off,h,n+1=>by simp only [aX,NT] at h⊢;exact⟨h.1,aX.take h.2 n⟩
theorem aZ.cells{ae sz:Nat}(d:∀b,A b->A' b/\w'.heap[b]? =w.heap[b]?):∀{xs:List (List T)} {off:Nat},(∀p,off<=p->p < off+xs.length * sz->w'.cell? ⟨ae,p,none⟩=w.cell? ⟨ae,p,none⟩)->aZ w A ae sz off xs->aZ w' A' ae sz off xs
 | [],_,_,_=>by simp [aZ]
 | cs::xs,off,f,a=>by
  simp only [aZ] at a⊢;have e:(cs::xs).length * sz=sz+xs.length * sz:=by simp [Mn];omega
  refine⟨a.1,aX.cells d (λj k=>f _ (by omega) (by rw [e];omega)) a.2.1,aZ.cells d (λp g i=>f p (by omega) (by rw [e];omega)) a.2.2⟩
theorem aZ.set{ae sz:Nat}(i:∀b,A b->A' b/\w'.heap[b]? =w.heap[b]?):∀{xs:List (List T)} {off k:Nat} {new:List T},aZ w A ae sz off xs->k < xs.length->new.length=sz->aX w' A' ae (off+k * sz) new->
  (∀p,off<=p->p < off+xs.length * sz->¬(off+k * sz<=p/\p < off+k * sz+sz)->w'.cell? ⟨ae,p,none⟩=w.cell? ⟨ae,p,none⟩)->aZ w' A' ae sz off (xs.set k new)
 | [],_,_,_,_,l,_,_,_=>by simp at l
 | cs::xs,off,0,new,d,_,m,a,f=>by
  simp only [aZ,NV] at d⊢;have e:(cs::xs).length * sz=sz+xs.length * sz:=by simp [Mn];omega
  exact⟨m,by simpa using a,aZ.cells i (λp n o=>f p (by omega) (by rw [e];omega) (by omega)) d.2.2⟩
 | cs::xs,off,k+1,new,d,l,m,a,f=>by
  simp only [aZ,NA] at d⊢;have e:(cs::xs).length * sz=sz+xs.length * sz:=by simp [Mn];omega
  have g:(k+1) * sz=sz+k * sz:=by rw [Mn];omega
  refine⟨d.1,aX.cells i (λj r=>f _ (by omega) (by rw [e];omega) (by rw [g];omega)) d.2.1,aZ.set i d.2.2 (by simpa using l) m ?_ (λp n o q=>f p (by omega) (by rw [e];omega) (by rw [g];omega))⟩;rw [show off+sz+k * sz=off+ (k+1) * sz by rw [g];omega];exact a
theorem az.bZ{a l:List AV}{vs us:List Value}(h:az w A ρ a vs)(b:az w A ρ l us)(off:Nat):az w A ρ (bZ off l a) (bZ off us vs):=by unfold Aev.bZ;have:=b.length;rw [this];exact((h.take off).append b).append (h.drop _)
theorem aX.bZ{ae base off:Nat}{cs l:List T}(a:aX w A ae base (cs.take off))(b:aX w A ae (base+off) l)(d:aX w A ae (base+off+l.length) (cs.drop (off+l.length)))(hl:off<=cs.length):aX w A ae base (bZ off l cs):=by
 unfold Aev.bZ;rw [LV];have lt:(cs.take off).length=off:=by rw [Mp];omega
 exact aX.append a (aX.append (by rw [lt];exact b) (by rw [lt];exact d))
theorem tD{t:TypeId}(g:bP P t=true){b off:Nat}{arr:Array Value}{d:TypeId}{v:Value}(f:w.heap[b]? =some (.cells arr d (0,0)))(hl:v.cells.size=P.cellsOf t)(a:off+v.cells.toList.length<=arr.size)
  (e:∀u∈v.cells.toList,u.oneCell'=true):(storeVar t ⟨b,off,none⟩ v).run P w= .ok () (w.setRow b (bZ off v.cells.toList arr.toList).toArray):=by
 unfold storeVar;simp only [LP,gL g,LA,hl,ne_eq,not_true_eq_false,if_false];have:=run_storeCells_at P b off d v.cells.toList 0 arr w f (by simpa using a) e;simp only [Nx] at this;rw [this];rfl
theorem Ax{v:AV}{p:Id×ab}(a:p∈fu h v):p.1∈v.ids:=by
 unfold fu at a;split at a
 .split at a
  .simp only [Lz] at a;subst a;simp [AV.ids]
  .cases a
 .split at a
  .simp only [Lz] at a;subst a;simp [AV.ids]
  .cases a
 .split at a
  .split at a
   .simp only [Lz] at a;subst a;simp [AV.ids]
   .cases a
  .cases a
 .cases a
theorem AB:∀{vs:List AV} {p:Id×ab},p∈jW h vs->p.1∈bQ vs
 | [],p,a=>by cases a
 | v::vs,p,a=>by
  simp only [jW,LI] at a;simp only [bQ,LI];rcases a with a | a
  .exact .inl (Ax a)
  .exact .inr (AB a)
theorem AE{v:AV}{p:Id×ab}(a:p∈fi h v):p.1∈v.ids:=by
 unfold fi at a;split at a
 .simp only [AV.ids];exact AB a
 .exact Ax a
theorem cV:∀{us:aC} {h:Id->Option ab} {i:Id},(∀p∈us,p.1≠i)->aI h us i=h i
 | [],_,_,_=>rfl
 | (j,b)::us,h,i,a=>by rw [cB,cV (λp d=>a p (Lr _ d)),ao _ _ (λe=>a (j,b) Lq e.symm)]
theorem rq:∀{us:aC} {h:Id->Option ab} {i:Id} {b:ab},(∀p∈us,p.1≠i)->aI (aG h i (some b)) us=aG (aI h us) i (some b)
 | [],_,_,_,_=>rfl
 | (j,x)::us,h,i,b,f=>by
  rw [cB,cB,<-rq (λp g=>f p (Lr _ g))];congr 1;funext k;have:j≠i:=λe=>f (j,x) Lq e;by_cases a:k=j
  .subst a;rw [aB,ao _ _ this,aB]
  .by_cases d:k=i
   .subst d;rw [ao _ _ a,aB,aB]
   .rw [ao _ _ a,ao _ _ d,ao _ _ d,ao _ _ a]
theorem HS.nn{us:aC}(hs:HS c w h ρ O)(a:eZ h us):
  ∃O',Le w ρ O w ρ O'/\HS c w (aI h us) ρ O'/\(∀i,O' i=O i\/O' i=none)/\(∀p∈us,O' p.1=none)/\∀i,(∀p∈us,p.1≠i)->O' i=O i:=HS.Av hs a
theorem tK{b:Nat}{i:Id}(a:O i=some b)(cs:Array Value):Le w ρ O (w.setRow b cs) ρ O:=
 Le.write a rfl rfl rfl (nJ w b cs) λk d=>setRow_other w b k cs d
theorem cx.put{t:TypeId}{sz k off b o L cap:Nat}{bb:Bool}{xs M:List (List T)}{l:List T}{d:Value}{Q:Nat->Prop}(V:cx w A sz bb xs (.slice (some ⟨b,o,none⟩) L cap) Q)(f:fH k off l xs=some M)(W:bP P t=true)
  (N:l.length=P.cellsOf t) (C:aQ w A l d.cells.toList) (R:∀u∈d.cells.toList,u.oneCell'=true/\u.cells= #[u]):
  ∃cs,Q b/\(storeVar t ⟨b,o+k * sz+off,none⟩ d).run P w= .ok () (w.setRow b cs)/\
   ∀A' B,(∀n,A n->A' n/\(w.setRow b cs).heap[n]? =w.heap[n]?)->B b->cx (w.setRow b cs) A' sz bb M (.slice (some ⟨b,o,none⟩) L cap) B:=by
 obtain⟨a',cap',G,Y,Z,q4,H⟩:=V;simp only [Mu] at G;obtain⟨rfl,rfl,rfl⟩:=G;unfold fH at f;cases i:xs[k]? with
 | none=>simp [i] at f
 | some cs=>
  simp only [i] at f;split at f
  .rename_i q;simp only [Lo] at f;subst f;have E:k < xs.length:=(Ls.1 i).1;rcases H with H | ⟨ae,off',arr,K,I,q7,v,q9,z⟩
   .omega
   .simp only [Lo,Mo] at I;obtain⟨rfl,rfl,_⟩:=I;obtain⟨F,x⟩:=z.get i;have S:=C.length;have U:(k+1) * sz<=cap * sz:=Mm _ (by omega);have e2:(k+1) * sz=k * sz+sz:=Mn _ _;have e:o+k * sz+off+d.cells.toList.length<=arr.size:=by omega
    have J:=tD (P:=P) W v (by rw [<-LU,S,N]) e (λu X=>(R u X).1);refine⟨_,q7,J,λA' B g D=> ?_⟩;have y:(xs.set k (bZ off l cs)).length=xs.length:=by simp
    refine⟨some ⟨b,o,none⟩,cap,by rw [y],by rw [y];exact Y,Z,q4, .inr ⟨b,o,_,K,rfl,D,setRow_heap w b arr _ K (0,0) v, ?_, ?_⟩⟩
    .have:=nI (o+k * sz+off) d.cells.toList arr.toList (by simpa using e);simp only [MK];rw [this];simpa using q9
    .have a:∀p,(w.setRow b (bZ (o+k * sz+off) d.cells.toList arr.toList).toArray).cell? ⟨b,p,none⟩=if o+k * sz+off<=p/\p < o+k * sz+off+d.cells.toList.length then d.cells.toList[p - (o+k * sz+off)]? else w.cell? ⟨b,p,none⟩:=by
      intro p;rw [pS v,Nq,o9 _ _ _ (by simpa using e),iS v];simp
     have r:(bZ off l cs).length=sz:=by rw [nI off l cs q,F]
     refine aZ.set g z E r ?_ ?_
     .refine aX.bZ (aX.cells g (λj m=> ?_) (x.take off)) ?_ ?_ (by omega)
      .have lt:(cs.take off).length=off:=by rw [Mp];omega
       rw [lt] at m;rw [a,if_neg (by omega)]
      .refine aX.jb (aQ.mono g _ _ C) (λj u m=> ?_);have hj':j < d.cells.toList.length:=(Ls.1 m).1;rw [a,if_pos (by omega)];rw [show o+k * sz+off+j - (o+k * sz+off)=j by omega];exact m
      .have:=x.drop (off+l.length);rw [show o+k * sz+off+l.length=o+k * sz+ (off+l.length) by omega];refine aX.cells g (λj m=> ?_) this;rw [a,if_neg (by omega)]
     .intro p h1 h2 h3;rw [a,if_neg (by omega)]
  .simp at f
theorem sA{n:Nat}{p:Bool×List (List T)}:∀{es:List Row},cj n es=some p->∃k e,es[k]? =some e/\e.n=n/\e.own=some p/\∀q,cH n q es=es.set k {e with own:=q}
 | [],h=>by simp [cj] at h
 | e::es,h=>by
  unfold cj at h;by_cases c:e.n=n
  .rw [if_pos c] at h;exact⟨0,e,rfl,c,h,λq=>by simp [cH,c]⟩
  .rw [if_neg c] at h;obtain⟨k,e',a,b,d,f⟩:=sA h;exact⟨k+1,e',by simpa using a,b,d,λq=>by simp [cH,c,f]⟩
theorem qB{es:List Row}(h:(es.map (·.n)).Nodup){j k:Nat}{x y:Row}(g:es[j]? =some x)(i:es[k]? =some y)(e:x.n=y.n):j=k:=by
 have d:(es.map (·.n))[j]? =some x.n:=by simp [g]
 have f:(es.map (·.n))[k]? =some x.n:=by simp [i,e]
 obtain⟨l,a⟩:=Ls.1 d;obtain⟨m,b⟩:=Ls.1 f;exact(List.getElem_inj h).1 (a.trans b.symm)
theorem BM:∀{l:List Nat} {k x:Nat},l.Nodup->x∉l->(l.set k x).Nodup
 | [],_,_,_,_=>by simp
 | a::l,0,x,b,d=>by simp only [NV,MB,LC,not_or] at b d⊢;exact⟨d.2,b.2⟩
 | a::l,k+1,x,b,d=>by
  simp only [NA,MB,LC,not_or] at b d⊢;refine⟨λhm=> ?_,BM b.2 d.2⟩;rcases Na hm with h | h
  .exact b.1 h
  .exact d.1 h.symm
theorem G5{O':Id->Option Nat}(hs:HS c w h ρ O)(a:Id->Option Id)(d:∀k b,O' k=some b->∃x,a k=some x/\O x=some b)(e:∀k f x,a k=some x->a f=some x->k=f):∀i j b,O' i=some b->O' j=some b->i=j:=by intro i j b g l;obtain⟨x,m,x2⟩:=d i b g;obtain⟨y,n,o⟩:=d j b l;have:=hs.inj x y b x2 o;subst this;exact e i j x m n
theorem HS.putRow{i j:Id}{b bb:Bool}{sz col rsz q k ae:Nat}{es:List Row}{e:Row}{xs:List (List T)}{K:Value}{cs:Array Value}(hs:HS c w h ρ O)(hi:h i=some (.rows b sz col rsz q es))(Y:h j=some (.sl false rsz bb xs))(W:es[k]? =some e)(hv:ρ j=some K)
  {a:Option Addr} {cap:Nat} (hρ:ρ i=some (.slice a es.length cap)) {off:Nat} {arr:Array Value} {t:TypeId} (ha:a=some ⟨ae,off,none⟩) (hO:O i=some ae) (hb:w.heap[ae]? =some (.cells arr t (0,0))) (hfit:off+cap * sz<=arr.size)
  (hcs:cs= (bZ (off+k * sz+col) [K] arr.toList).toArray):
  ∃ρ' O',Le w ρ O (w.setRow ae cs) ρ' O'/\HS c (w.setRow ae cs) (aG (aG h j (some .dead)) i (some (.rows b sz col rsz (q+1) (es.set k ⟨q,e.cs,some (bb,xs)⟩)))) ρ' O':=by
 obtain⟨a',cap',r1,r2,r3,⟨n1,n2,n3,n4⟩,r5⟩:=hs.ae i _ hi;rw [hρ] at r1;simp only [Lo,Mu] at r1;obtain⟨rfl, -,rfl⟩:=r1;have hlt:k < es.length:=(Ls.1 W).1;have S:ca w (AA c w O) ρ O i ae sz col rsz off es:=by
  rcases r5 with r5 | ⟨blk',off',arr',t',q1,q2,q3,q4,q5⟩
  .omega
  .rw [ha] at q1;simp only [Lo,Mo] at q1;obtain⟨rfl,rfl,_⟩:=q1;exact q5
 have hen:e.n < q:=n2 e (LB W);have H:=hs.real (i:=i) (by rw [hi];simp);have R:=hs.real (i:=j) (by rw [Y];simp);have hij:j≠i:=λe=>by rw [e,hi] at Y;cases Y
 have Q:∀n,Id.g i n≠j:=λn=>aN R;obtain⟨v',s1,s2,_⟩:=hs.ae j _ Y;rw [hv] at s1;cases s1;have J:=S.get W;have hcol:=J.2.1;have hbnd:(k+1) * sz<=cap * sz:=Mm _ (by omega);have e2:(k+1) * sz=k * sz+sz:=Mn _ _;have M:off+k * sz+col+ [K].length<=arr.toList.length:=by simp;omega
 let ρ':Id->Option Value:=aG ρ (.g i q) (some K);let O':Id->Option Nat:=λx=>if x= .g i q then O j else if x=j then none else if x= .g i e.n then none else O x;have G:∀x,x≠ .g i q->x≠j->x≠ .g i e.n->O' x=O x:=λx o I U=>by simp only [O',if_neg o,if_neg I,if_neg U]
 have hOn:O' (.g i q)=O j:=by simp only [O',if_true]
 have hOj:O' j=none:=by simp only [O',if_neg (Q q).symm,if_true]
 have hOe:O' (.g i e.n)=none:=by
  have o:Id.g i e.n≠ .g i q:=by intro h;cases h;omega
  simp only [O',if_neg o,if_neg (Q e.n),if_true]
 have L:∀x d,O' x=some d->(x= .g i q/\O j=some d)\/(x≠ .g i q/\x≠j/\x≠ .g i e.n/\O x=some d):=by
  intro x d l;simp only [O'] at l;split at l
  .exact .inl ⟨by assumption,l⟩
  .split at l
   .cases l
   .split at l
    .cases l
    .exact .inr ⟨by assumption,by assumption,by assumption,l⟩
 have le:Le w ρ O (w.setRow ae cs) ρ' O':=by
  refine⟨rfl,rfl,rfl,by rw [nJ];exact LM _,λx u l=> ?_,λd _ hn=>setRow_other w ae d _ λe=>hn i (e▸hO),λx d l=> ?_⟩
  .by_cases e:x= .g i q
   .subst e;rw [n3 q (LM _)] at l;cases l
   .simp only [ρ'];rw [ao _ _ e];exact l
  .rcases L x d l with⟨_,h⟩ | ⟨_,_,_,h⟩
   .exact .inl ⟨j,h⟩
   .exact .inl ⟨x,h⟩
 have C:∀x d,x≠i->O x=some d->(w.setRow ae cs).heap[d]? =w.heap[d]?:=λx d l r=>setRow_other w ae d _ λe=>l (hs.inj x i ae (e▸r) hO);refine⟨ρ',O',le,hs.lW le (λx y l=> ?_) (λx hr l=> ?_) (λx n=> ?_) (λx n l=> ?_) (λx n u V=> ?_) ?_ (λx d l=> ?_)⟩
 .by_cases v:x=i
  .subst v;rw [aB] at l;cases l;right;have X:(es.set k ⟨q,e.cs,some (bb,xs)⟩).length=es.length:=by simp
   refine⟨a,cap, ?_,by rw [X];exact r2,r3,⟨?_,λf F=> ?_,λn hn=> ?_,λn d r=> ?_⟩, .inr ⟨ae,off,cs,t,ha, ?_,setRow_heap w ae arr _ t (0,0) hb, ?_, ?_⟩⟩
   .rw [X];simp only [ρ'];rw [ao _ _ (aN H).symm];exact hρ
   .rw [Ou];refine BM n1 ?_;intro hm;obtain⟨f,F,e⟩:=L4.1 hm;simp only at e;have:=n2 f F;omega
   .rcases Na F with F | rfl
    .have:=n2 f F;omega
    .simp
   .have o:Id.g x n≠ .g x q:=by intro h;cases h;omega
    simp only [ρ'];rw [ao _ _ o];exact n3 n (by omega)
   .rcases L _ d r with⟨h,_⟩ | ⟨o,_,U,h4⟩
    .cases h;exact⟨_,List.mem_set hlt _,rfl⟩
    .obtain⟨f,F,N⟩:=n4 n d h4;obtain⟨m,hm⟩:=NG.1 F;have hmk:m≠k:=λe'=>by rw [e',W] at hm;cases hm;rw [N] at U;exact U rfl
     refine⟨f,NG.2 ⟨m, ?_⟩,N⟩;rw [MJ,if_neg (N9 hmk)];exact hm
   .rw [G x (aN H).symm (N9 hij) (aN H).symm];exact hO
   .rw [hcs,MK,nI _ _ _ M];simpa using hfit
   .have D:∀p,(w.setRow ae cs).cell? ⟨ae,p,none⟩=if off+k * sz+col<=p/\p < off+k * sz+col+1 then some K else w.cell? ⟨ae,p,none⟩:=by
     intro p;rw [pS hb,hcs,Nq,o9 _ _ _ M,iS hb];by_cases Z:off+k * sz+col<=p/\p < off+k * sz+col+1
     .rw [if_pos (by simpa using Z),if_pos Z,show p - (off+k * sz+col)=0 by omega];rfl
     .rw [if_neg (by simpa using Z),if_neg Z];simp
    refine ca.set (λd r=>le.A d r) hlt (λp p1 p2 p3=>by rw [D,if_neg (by omega)]) (λm f hm F=> ?_) ?_ S
    .have N:f.n≠e.n:=λe'=>hm (qB n1 F W e');have hfx:f.n≠q:=by have:=n2 f (LB F);omega
     have o:Id.g x f.n≠ .g x q:=by intro h;simp only [Id.g.injEq] at h;exact hfx h.2
     have I:Id.g x f.n≠ .g x e.n:=by intro h;simp only [Id.g.injEq] at h;exact N h.2
     refine⟨by simp only [ρ'];exact ao _ _ o,G _ o (Q _) I,λd r=>C _ d (aN H) r⟩
    .refine⟨J.1,hcol,λm y hm B=> ?_,K,by rw [D,if_pos (by omega)],by simp only [ρ'];exact aB _ _ _, ?_⟩
     .obtain⟨u,g1,g2⟩:=J.2.2.1 m y hm B;have hml:m < sz:=by have:=(Ls.1 B).1;rw [J.1] at this;exact this
      exact⟨u,by rw [D,if_neg (by omega)];exact g1,ax.mono (λd r=>le.A d r) y u g2⟩
     .simp only;refine cx.mono (λd r=>le.A d r) (λd r=> ?_) s2;simp only [LY,if_false] at r;rw [hOn];exact⟨r,C j d hij r⟩
  .rw [ao _ _ v] at l;by_cases E:x=j
   .subst E;rw [aB] at l;cases l;exact .inr ⟨⟨K,by simp only [ρ'];rw [ao _ _ (Q q).symm];exact hv,iG hs hv⟩,hOj⟩
   .rw [ao _ _ E] at l;have hrx:=hs.real (i:=x) (by rw [l];simp);refine .inl ⟨l,G x (aN hrx).symm E (aN hrx).symm,λd r=>C x d v r,λn=> ?_⟩;have o:∀m,Id.g x n≠ .g i m:=by intro m h;cases h;exact v rfl
    exact⟨by simp only [ρ'];exact ao _ _ (o _),G _ (o _) (aN R) (o _),λd r=>C _ d (aN H) r⟩
 .by_cases v:x=i
  .subst v;rw [aB] at l;cases l
  .rw [ao _ _ v] at l;by_cases E:x=j
   .subst E;rw [aB] at l;cases l
   .rw [ao _ _ E] at l;have:=hs.cf x hr l;refine⟨?_, ?_⟩
    .simp only [ρ'];rw [ao _ _ (aN hr).symm];exact this.1
    .rw [G x (aN hr).symm E (aN hr).symm];exact this.2
 .rw [ao _ _ (aN H),ao _ _ (aN R)];exact hs.dq x n
 .by_cases v:x=i
  .subst v;rw [aB] at l;cases l
  .rw [ao _ _ v] at l;by_cases E:x=j
   .subst E;rw [aB] at l;cases l
   .rw [ao _ _ E] at l;have:=hs.eE x n l;have o:∀m,Id.g x n≠ .g i m:=by intro m h;cases h;exact v rfl
    refine⟨?_, ?_⟩
    .simp only [ρ'];rw [ao _ _ (o _)];exact this.1
    .rw [G _ (o _) (aN R) (o _)];exact this.2
 .by_cases v:Id.g x n= .g i q
  .rw [v] at V;simp only [ρ',aB,Lo] at V;subst V;exact iG hs hv
  .simp only [ρ'] at V;rw [ao _ _ v] at V;exact hs.gone x n u V
 .refine G5 hs (λx=>if x= .g i q then some j else if x=j then none else some x) (λx d l=> ?_) (λx y z l B=> ?_)
  .rcases L x d l with⟨o,I⟩ | ⟨o,I,_,U⟩
   .exact⟨j,by rw [if_pos o],I⟩
   .exact⟨x,by rw [if_neg o,if_neg I],U⟩
  .split at l <;> split at B
   .rename_i o I;rw [o,I]
   .split at B
    .cases B
    .simp only [Lo] at l B;subst l;rename_i h;exact(h B).elim
   .split at l
    .cases l
    .simp only [Lo] at l B;subst B;rename_i h;exact(h l).elim
   .split at l
    .cases l
    .split at B
     .cases B
     .simp only [Lo] at l B;rw [l,B]
 .rw [nJ];rcases L x d l with⟨_,h⟩ | ⟨_,_,_,h⟩
  .exact hs.lt _ d h
  .exact hs.lt _ d h
theorem HS.Ld{i:Id}{n r:Nat}{b:Bool}{sz col rsz X:Nat}{es:List Row}{p:Bool×List (List T)}{F:List (List T)}{v:Value}{cs:Array Value}(hs:HS c w h ρ O)(Q:h i=some (.rows b sz col rsz X es))(hf:cj n es=some p)(M:O (.g i n)=some r)
  (U:ρ (.g i n)=some v) (S:cx (w.setRow r cs) (AA c (w.setRow r cs) O) rsz p.1 F v (λd=>O (.g i n)=some d)):
  HS c (w.setRow r cs) (aG h i (some (.rows b sz col rsz X (cH n (some (p.1,F)) es)))) ρ O:=by
 have le:Le w ρ O (w.setRow r cs) ρ O:=tK M _;have H:=hs.real (i:=i) (by rw [Q];simp);have o:∀x d,x≠ .g i n->O x=some d->(w.setRow r cs).heap[d]? =w.heap[d]?:=λx d j l=>setRow_other w r d _ λe=>j (hs.inj x _ r (e▸l) M);obtain⟨k,e,C,G,heo,K⟩:=sA hf;refine hs.lW le (λx y j=> ?_) (λx hr j=> ?_) (λx m=> ?_) (λx m j=> ?_) hs.gone hs.inj (λx d l=>by rw [nJ];exact hs.lt x d l)
 .by_cases z:x=i
  .subst z;rw [aB] at j;cases j;right;obtain⟨a,cap,r1,r2,r3,⟨V,W,n3,n4⟩,L⟩:=hs.ae x _ Q;rw [K];have D:(es.set k {e with own:=some (p.1,F)}).length=es.length:=by simp
   have E:(es.set k {e with own:=some (p.1,F)}).map (·.n)=es.map (·.n):=by
    rw [Ou];refine MM λm=> ?_;rw [MJ];split
    .rename_i h;subst h;have:=(Ls.1 C).1;rw [if_pos (by simpa using this)];simp [C]
    .rfl
   refine⟨a,cap,by rw [D];exact r1,by rw [D];exact r2,r3,⟨by rw [E];exact V,λf q=> ?_,n3,λm d l=> ?_⟩, ?_⟩
   .rcases Na q with q | rfl
    .exact W f q
    .exact W e (LB C)
   .obtain⟨f,q,N⟩:=n4 m d l;have:m∈(es.set k {e with own:=some (p.1,F)}).map (·.n):=by rw [E];exact L4.2 ⟨f,q,N⟩
    obtain⟨f',h1,h2⟩:=L4.1 this;exact⟨f',h1,h2⟩
   .rcases L with L | ⟨ae,off,arr,t,q1,Y,q3,q4,Z⟩
    .exact .inl L
    .have B:(w.setRow r cs).heap[ae]? =w.heap[ae]?:=o x ae (aN H).symm Y;refine .inr ⟨ae,off,arr,t,q1,Y,by rw [B];exact q3,q4, ?_⟩;have J:=Z.get C;refine ca.set (λd l=>le.A d l) (Ls.1 C).1 (λ_ _ _ _=>kD B) (λm f hm q=>⟨rfl,rfl,λd l=>o _ d (λh=> ?_) l⟩) ?_ Z
     .simp only [Id.g.injEq] at h;exact hm (qB V q C (by rw [h.2,G]))
     .obtain⟨a1,a2,a3,u,a4,I,a7⟩:=J;refine⟨a1,a2,λm y hm hy=> ?_,u,by rw [kD B];exact a4,I, ?_⟩
      .obtain⟨u',g1,g2⟩:=a3 m y hm hy;exact⟨u',by rw [kD B];exact g1,ax.mono (λd l=>le.A d l) y u' g2⟩
      .simp only;rw [G] at I⊢;rw [I] at U;cases U;exact S
  .rw [ao _ _ z] at j;have R:=hs.real (i:=x) (by rw [j];simp);refine .inl ⟨j,rfl,λd l=>o x d (aN R).symm l,λm=>⟨rfl,rfl,λd l=>o _ d (λh=> ?_) l⟩⟩;simp only [Id.g.injEq] at h;exact z h.1
 .by_cases z:x=i
  .subst z;rw [aB] at j;cases j
  .rw [ao _ _ z] at j;exact hs.cf x hr j
 .rw [ao _ _ (aN H)];exact hs.dq x m
 .by_cases z:x=i
  .subst z;rw [aB] at j;cases j
  .rw [ao _ _ z] at j;exact hs.eE x m j
theorem KR{R:Type}{t:TypeId}{a v:AV}{va y:Value}{K:aC->Option R}{r:R}(hs:HS c w s.h ρ O)(N:ah w (AA c w O) ρ a va)(hx:ah w (AA c w O) ρ v y)(f:gQ P s t a v K=some r):
  ∃us w' ρ' O',K us=some r/\(Instr.storeAt t va y).run P w= .ok () w'/\Le w ρ O w' ρ' O'/\HS c w' (aI s.h us) ρ' O':=by
 unfold gQ at f;cases ht:bP P t
 .simp [ht] at f
 simp only [ht,cond_true] at f;split at f
 .rename_i i off;split at f
  .rename_i cs H;split at f
   .rename_i q;obtain⟨T,M,c3⟩:=q;obtain⟨b,arr,t',h1,h2,h3,h4,h5,h6⟩:=ux hs H;simp only [ah] at N;obtain⟨J,x,rfl⟩:=N;rw [h1] at x;simp only [Lo,MU,Mo] at x;obtain⟨rfl,_⟩:=x;obtain⟨U,g2⟩:=rU hs hx M;have gl:=U.length;have hl:=h4.length;have D:off+y.cells.toList.length<=arr.size:=by rw [gl];simp only [LU] at hl;omega
    have B:=tD (P:=P) ht h3 (by rw [<-LU,gl,T]) D (λu hu=>(g2 u hu).1);have le:Le w ρ O (w.setRow b (bZ off y.cells.toList arr.toList).toArray) ρ O:=tK h2 _;refine⟨_,_,ρ,O,f,by simpa [Instr.storeAt,Instr.sureAddr] using B,le, ?_⟩;rw [dc];refine hs.write h2 le (λk f=>setRow_other w b k _ f) _ ?_ (by rw [H];simp);refine⟨b,_,t',h1,h2,setRow_heap w b arr _ t' (0,0) h3, ?_, ?_⟩
    .have m:∀(Y:List AV) (vs:List Value),az w (AA c w O) ρ Y vs->az _ _ ρ Y vs:=λY vs hr=>az.mono (λb hb=>le.A b hb) le.dJ Y vs hr;exact az.bZ (m _ _ h4) (m _ _ U) off
    .intro u hu;simp only [bZ,LI] at hu;rcases hu with(hu | hu) | hu
     .exact h5 u (NL hu)
     .exact g2 u hu
     .exact h5 u (NM hu)
   .simp at f
  .simp at f
 .rename_i i sz k off;split at f
  .rename_i g bb xs H;obtain⟨l,hsn,f⟩:=Lp.1 f;split at f
   .rename_i q;obtain⟨rfl,T,M⟩:=q;replace f:=aL f (.inl rfl);obtain⟨ys,I,f⟩:=f;have E:∀p∈fi s.h v,p.1≠i:=by
     intro p hp e;have:=AE hp;rw [e] at this;simp only [List.contains_eq_mem,decide_eq_false_iff_not] at M;exact M this
    obtain⟨G,cn,S,o1,o2,o3⟩:=HS.nn hs (vB (h:=s.h) v);obtain⟨U,g2⟩:=xp hs hx hsn cn o1 o2;have Q:aI s.h (fi s.h v) i=some (.sl false g bb xs):=by rw [cV E];exact H
    obtain⟨vv,q0,a',cap',X,q2,q3,q4,q5⟩:=lr S Q;simp only [ah] at N;obtain⟨b,o,L,cap,x,rfl⟩:=N;rw [q0] at x;simp only [Lo] at x;subst x;simp only [Mu] at X;obtain⟨rfl,rfl,rfl⟩:=X;unfold fH at I;cases hkx:xs[k]? with
    | none=>simp [hkx] at I
    | some cs=>
     simp only [hkx] at I;split at I
     .rename_i hfit0;simp only [Lo] at I;subst I;have hlt:k < xs.length:=(Ls.1 hkx).1;rcases q5 with q5 | ⟨ae,off',arr,t',q6,q7,q8,q9,q10⟩
      .omega
      .simp only [Lo,Mo] at q6;obtain⟨rfl,rfl,_⟩:=q6;simp only [LY,if_false] at q7;obtain⟨lcs,hcs⟩:=q10.get hkx;have gl:=U.length;have hbnd:(k+1) * g<=cap * g:=Mm _ (by omega);have e2:(k+1) * g=k * g+g:=Mn _ _;have D:o+k * g+off+y.cells.toList.length<=arr.size:=by omega
       have B:=tD (P:=P) ht q8 (by rw [<-LU,gl,T]) D (λu hu=>(g2 u hu).1);have F:Le w ρ G (w.setRow b (bZ (o+k * g+off) y.cells.toList arr.toList).toArray) ρ G:=tK q7 _;refine⟨_,_,ρ,G,f,by simpa [Instr.storeAt,Instr.sureAddr] using B,cn.trans F, ?_⟩;rw [cB,rq E];refine S.write q7 F (λk f=>setRow_other w b k _ f) _ ?_ (by rw [Q];simp);refine⟨_,q0, ?_,by simp⟩;have hl2:(xs.set k (bZ off l cs)).length=xs.length:=by simp
       refine⟨some ⟨b,o,none⟩,cap,by rw [hl2],by rw [hl2];exact q2,q3,q4, .inr ⟨b,o,_,t',rfl,by simpa using q7,setRow_heap w b arr _ t' (0,0) q8, ?_, ?_⟩⟩
       .have:=nI (o+k * g+off) y.cells.toList arr.toList (by simpa using D);simp only [MK];rw [this];simpa using q9
       .have z:∀p,(w.setRow b (bZ (o+k * g+off) y.cells.toList arr.toList).toArray).cell? ⟨b,p,none⟩=if o+k * g+off<=p/\p < o+k * g+off+y.cells.toList.length then y.cells.toList[p - (o+k * g+off)]? else w.cell? ⟨b,p,none⟩:=by
         intro p;rw [pS q8,Nq,o9 _ _ _ (by simpa using D),iS q8];simp
        have Z:∀J,AA c w G J->AA c (w.setRow b (bZ (o+k * g+off) y.cells.toList arr.toList).toArray) G J/\(w.setRow b (bZ (o+k * g+off) y.cells.toList arr.toList).toArray).heap[J]? =w.heap[J]?:=λJ hb'=>F.A J hb';have lrepl:(bZ off l cs).length=g:=by rw [nI off l cs hfit0,lcs]
        refine aZ.set Z q10 hlt lrepl ?_ ?_
        .refine aX.bZ (aX.cells Z (λj V=> ?_) (hcs.take off)) ?_ ?_ (by omega)
         .have lt:(cs.take off).length=off:=by rw [Mp];omega
          rw [lt] at V;rw [z,if_neg (by omega)]
         .refine aX.jb (aQ.mono Z _ _ U) (λj u V=> ?_);have hj':j < y.cells.toList.length:=(Ls.1 V).1;rw [z,if_pos (by omega)];rw [show o+k * g+off+j - (o+k * g+off)=j by omega];exact V
         .have:=hcs.drop (off+l.length);rw [show o+k * g+off+l.length=o+k * g+ (off+l.length) by omega];refine aX.cells Z (λj V=> ?_) this;rw [z,if_neg (by omega)]
        .intro p h1 h2 h3;rw [z,if_neg (by omega)]
     .simp at I
   .simp at f
  .rename_i bb g col rsz nx es H;split at f
   .rename_i j;split at f
    .rename_i rsz' J xs V;split at f
     .rename_i q;obtain⟨rfl,rfl,rfl,T,M⟩:=q;replace f:=aL f (.inl rfl);obtain⟨e,he,f⟩:=f;obtain⟨a,cap,r1,r2,r3,r4,r5⟩:=hs.ae i _ H;simp only [ah] at N hx;obtain⟨b,o,L,cap',x,rfl⟩:=N;have e1':=x;rw [r1] at x;simp only [Lo,Mu] at x;obtain⟨rfl,rfl,rfl⟩:=x;have hlt:k < es.length:=(Ls.1 he).1;rcases r5 with r5 | ⟨ae,off',arr,t',X,q2,q3,q4,q5⟩
      .omega
      .simp only [Lo,Mo] at X;obtain⟨rfl,rfl,_⟩:=X;have W:=iG hs hx;have hcol:=(q5.get he).2.1;have hbnd:(k+1) * g<=cap * g:=Mm _ (by omega);have e2:(k+1) * g=k * g+g:=Mn _ _;have C:y.cells.toList= [y]:=by rw [W.2]
       have B:=tD (P:=P) (w:=w) (v:=y) ht q3 (by rw [W.2,T];rfl) (off:=o+k * g+off) (by rw [C];simp;omega) (λu hu=>by rw [C,Lz] at hu;subst hu;exact W.1);rw [C] at B;obtain⟨ρ',O',le,hs'⟩:=hs.putRow H V he hx r1 rfl q2 q3 q4 rfl;refine⟨_,_,ρ',O',f,by simpa [Instr.storeAt,Instr.sureAddr] using B,le, ?_⟩;rw [cB,dc];exact hs'
     .simp at f
    .simp at f
   .simp at f
  .simp at f
 .rename_i i sz n k off;split at f
  .rename_i b g col rsz nx es H;replace f:=aL f (.inl rfl);obtain⟨p,hp,f⟩:=f;replace f:=Lp.1 f;obtain⟨l,hsn,f⟩:=f;split at f
   .rename_i q;obtain⟨rfl,T,M⟩:=q;replace f:=aL f (.inl rfl);obtain⟨ys,I,f⟩:=f;have E:∀p∈fi s.h v,p.1≠i:=by
     intro p hp e;have:=AE hp;rw [e] at this;simp only [List.contains_eq_mem,decide_eq_false_iff_not] at M;exact M this
    obtain⟨G,cn,S,o1,o2,o3⟩:=HS.nn hs (vB (h:=s.h) v);obtain⟨U,g2⟩:=xp hs hx hsn cn o1 o2;have Q:aI s.h (fi s.h v) i=some (.rows b g col rsz nx es):=by rw [cV E];exact H
    obtain⟨vv,q0,X⟩:=tA (s:=⟨s.t,aI s.h (fi s.h v)⟩) S Q hp;simp only [ah] at N;obtain⟨bk,o,L,cap,x,rfl⟩:=N;rw [q0] at x;simp only [Lo] at x;subst x;obtain⟨cs,hOb,B,hsl⟩:=X.put (P:=P) I ht T U g2;have F:Le w ρ G (w.setRow bk cs) ρ G:=tK hOb _;refine⟨_,_,ρ,G,f,by simpa [Instr.storeAt,Instr.sureAddr] using B,cn.trans F, ?_⟩;rw [cB,rq E];exact S.Ld Q hp hOb q0 (hsl _ _ (λd hd=>F.A d hd) hOb)
   .simp at f
  .simp at f
 .simp at f
theorem CQ(t:TypeId)(cells:Array Value):(newRow t cells).run P w= .ok ⟨w.heap.size,0,none⟩ (w.alloc (.cells cells t)):=by simp [newRow]
theorem iU(o:Obj):(w.alloc o).heap[w.heap.size]? =some o:=by show(w.heap.push o)[w.heap.size]? =some o;simp
theorem HS.BI{i:Id}(hs:HS c w h ρ O)(a:h i=none){cs:List AV}{vs:List Value}(t:TypeId)(f:az w (AA c w O) ρ cs vs)(d:∀u∈vs,u.oneCell'=true/\u.cells= #[u])(hrl:i.real=true:=by rfl):
  Le w ρ O (w.alloc (.cells vs.toArray t)) (aG ρ i (some (.pointer (some ⟨w.heap.size,0,none⟩)))) (aG O i (some w.heap.size))/\
  HS c (w.alloc (.cells vs.toArray t)) (aG h i (some (.box cs))) (aG ρ i (some (.pointer (some ⟨w.heap.size,0,none⟩)))) (aG O i (some w.heap.size)):=by
 have le:=Le.alloc hs hrl a (.cells vs.toArray t) (.pointer (some ⟨w.heap.size,0,none⟩)) (some w.heap.size) (.inr rfl);refine⟨le,hs.alloc hrl a _ _ _ (.inr rfl) _ ⟨w.heap.size,vs.toArray,t,by simp,by simp,iU _, ?_,d⟩⟩;exact az.mono (λb e=>le.A b e) le.dJ _ _ f
theorem HS.Iz{i:Id}(hs:HS c w h ρ O)(a:h i=none){cs:List AV}{arr:Array Value}(t:TypeId)(f:az w (AA c w O) ρ cs arr.toList)(d:∀u∈arr.toList,u.oneCell'=true/\u.cells= #[u])(hrl:i.real=true:=by rfl):
  Le w ρ O (w.alloc (.cells arr t)) (aG ρ i (some (.slice (some ⟨w.heap.size,0,none⟩) 1 1))) (aG O i (some w.heap.size))/\
  HS c (w.alloc (.cells arr t)) (aG h i (some (.arr cs))) (aG ρ i (some (.slice (some ⟨w.heap.size,0,none⟩) 1 1))) (aG O i (some w.heap.size)):=by
 have le:=Le.alloc hs hrl a (.cells arr t) (.slice (some ⟨w.heap.size,0,none⟩) 1 1) (some w.heap.size) (.inr rfl);refine⟨le,hs.alloc hrl a _ _ _ (.inr rfl) _ ⟨w.heap.size,arr,t,by simp,by simp,iU _, ?_,d⟩⟩;exact az.mono (λb e=>le.A b e) le.dJ _ _ f
theorem BU{u:Value}{x:T}(e:mb u=some x):ax w A x u:=by
 cases u <;> simp only [mb,Lo,reduceCtorEq] at e
 case slice a l b=>split at e <;> simp_all;subst e;simp [ax]
 case pointer a=>split at e <;> simp_all;subst e;simp [ax]
 case map a=>split at e <;> simp_all;subst e;simp [ax]
 all_goals (subst e;simp [ax])
theorem mc:∀{us:List Value} {l:List T},jz us=some l->aQ w A l us
 | [],l,e=>by simp only [jz,Lo] at e;subst e;rfl
 | u::us,l,e=>by simp only [jz] at e;obtain⟨x,a,e⟩:=Lp.1 e;obtain⟨d,b,e⟩:=Lp.1 e;simp only [Lo] at e;subst e;exact⟨u,us,rfl,BU a,mc b⟩
theorem lC{t:TypeId}{l:List T}(e:fZ P t=some l):∃i z,P.info? t=some i/\i.zero=some z/\jz z.cells.toList=some l:=by
 unfold fZ at e;split at e
 .rename_i i a;split at e
  .rename_i z b;exact⟨i,z,a,b,e⟩
  .simp at e
 .simp at e
theorem GH(off:Nat)(v cells:Array Value)(d:off+v.size<=cells.size):(v.zipIdx.foldl (λcs (x:Value×Nat)=>cs.setIfInBounds (off+x.2) x.1) cells).toList=bZ off v.toList cells.toList:=by
 obtain⟨f,b⟩:=Go.Great.foldl_set off v.toList 0 cells;have e:v.zipIdx.foldl (λcs (x:Value×Nat)=>cs.setIfInBounds (off+x.2) x.1) cells= (v.toList.zipIdx 0).foldl (λcs (x:Value×Nat)=>cs.setIfInBounds (off+x.2) x.1) cells:=by rw [<-Array.foldl_toList,Array.toList_zipIdx]
 rw [e];apply MM;intro p;rw [Ml,b p,o9 off v.toList cells.toList (by simpa using d)];simp only [Nx,LU,Ml];by_cases a:off<=p/\p < off+v.size
 .rw [if_pos ⟨a.1,a.2,by omega⟩,if_pos a]
 .rw [if_neg (by omega),if_neg a]
inductive pJ (w:World) (A:Nat->Prop) (ρ:Id->Option Value) (place:Nat->Option (Nat×Nat)):List (Nat×List AV)->List (Nat×Value)->Prop
 | nil:pJ w A ρ place [] []
 | cons {off:Nat} {l:List AV} {f:Nat} {v:Value} {ls:List (Nat×List AV)} {vs:List (Nat×Value)} (hp:place f=some (off,l.length)) (hr:az w A ρ l v.cells.toList) (h1:∀u∈v.cells.toList,u.oneCell'=true/\u.cells= #[u])
   (rest:pJ w A ρ place ls vs):pJ w A ρ place ((off,l)::ls) ((f,v)::vs)
theorem Ah{a:Nat->Option (Nat×Nat)}:∀{j:List (Nat×List AV)} {vs:List (Nat×Value)} {i out:List AV} {cells:Array Value},pJ w A ρ a j vs->qq j i=some out->az w A ρ i cells.toList->(∀u∈cells.toList,u.oneCell'=true/\u.cells= #[u])->
  ∃r,Instr.fill a cells vs=some r/\az w A ρ out r.toList/\∀u∈r.toList,u.oneCell'=true/\u.cells= #[u]
 | [],_,i,out,cells, .nil,hl,d,e=>by simp only [qq,Lo] at hl;subst hl;exact⟨cells,rfl,d,e⟩
 | (off,l)::j,(f,v)::vs,i,out,cells, .cons z o n m,hl,d,e=>by
  simp only [qq] at hl;split at hl
  .rename_i y;have k:=o.length;have B:=d.length;simp only [LU] at k B;have g:off+v.cells.size<=cells.size:=by omega
   have b:=GH off v.cells cells g;obtain⟨r,p,q,t⟩:=Ah (cells:=v.cells.zipIdx.foldl (λcs (x:Value×Nat)=>cs.setIfInBounds (off+x.2) x.1) cells) m hl (by
    rw [b];unfold bZ;rw [show v.cells.toList.length=l.length by simpa using k];exact((d.take off).append o).append (d.drop _)) (by
    intro u hu;rw [b] at hu;simp only [bZ,LI] at hu;rcases hu with(hu | hu) | hu
    .exact e u (NL hu)
    .exact n u hu
    .exact e u (NM hu))
   refine⟨r, ?_,q,t⟩;unfold Instr.fill;simp only [z];rw [if_neg (by simp [k];omega)];exact p
  .simp at hl
theorem B6{t:TypeId}{f:Nat}{p:Nat×TypeId}(e:qL P t f=some p)(k:nE P t=true):
  bP P p.2=true/\((∃a,P.underlying t=some (.struct a)/\(a.toList.map λx=>(x.offset,P.cellsOf x.type))[f]? =some (p.1,P.cellsOf p.2))\/
   ∃n e,P.underlying t=some (.array n e)/\p= (f * P.cellsOf e,e)):=by
 unfold qL at e;split at e
 .rename_i q g;simp only [Lo] at e;subst e;obtain⟨a,x,b,d,i,j⟩:=vp g;refine⟨j, .inl ⟨a,b, ?_⟩⟩;rw [Mz,Ml,d];simp [i]
 .split at e
  .rename_i n u g;simp only [Lo] at e;subst e;obtain⟨b,d⟩:=x7 g;exact⟨d, .inr ⟨n,u,b,rfl⟩⟩
  .simp at e
theorem B8{a:Act}{g:Option Gs}{t:TypeId}(hs:HS c w s.h ρ O)(n:SS w (AA c w O) ρ s.t a.tmps)(m:iO a.tmps g)(l:nE P t=true)(b:Nat->Option (Nat×Nat))
  (d:∀f p,qL P t f=some p->b f=some (p.1,P.cellsOf p.2)):
  ∀{k:List (Nat×Operand)} {j:List (Nat×List AV)},mg P t (s.get g) k=some j->pJ w (AA c w O) ρ b j (k.map λx=>(x.1,a.eval x.2))
 | [],j,e=>by simp only [mg,Lo] at e;subst e;exact .nil
 | (f,o)::k,j,e=>by
  simp only [mg] at e;obtain⟨p,v,e⟩:=Lp.1 e;split at e
  .rename_i i;obtain⟨q,y,e⟩:=Lp.1 e;simp only [Lo] at e;subst e;have z:=SS.get (h:=s.h) n m o;obtain⟨r,u⟩:=rU hs z i.2;exact .cons (by rw [d f p v,show(St.get ⟨s.t,s.h⟩ g o)=s.get g o from rfl,i.1]) r u (B8 hs n m l b d y)
  .simp at e
theorem Ei{a:Act}{g:Option Gs}{t:TypeId}{o:Array (Nat×Operand)}{N:AV}(hs:HS c w s.h ρ O)(Z:SS w (AA c w O) ρ s.t a.tmps)(Y:iO a.tmps g)(e:rS P t (s.get g) o.toList=some N):
  ∃v,(Instr.build t (o.map λ(i,x)=>(i,a.eval x))).run P w= .ok v w/\ah w (AA c w O) ρ N v:=by
 unfold rS at e;split at e
 .rename_i b;obtain⟨z,hz,e⟩:=Lp.1 e;obtain⟨l,hl,e⟩:=Lp.1 e;obtain⟨cs,R,e⟩:=Lp.1 e;simp only [Lo] at e;subst e;obtain⟨i,zv,D,G,T⟩:=lC hz;have F:aQ w (AA c w O) z zv.cells.toList:=mc T;have W:(o.map λ(i,x)=>(i,a.eval x)).toList=o.toList.map λx=>(x.1,a.eval x.2):=by simp
  have key:∀j:Nat->Option (Nat×Nat),(∀f p,qL P t f=some p->j f=some (p.1,P.cellsOf p.2))->∃r,Instr.fill j zv.cells (o.map λ(i,x)=>(i,a.eval x)).toList=some r/\az w (AA c w O) ρ cs r.toList/\∀u∈r.toList,u.oneCell'=true/\u.cells= #[u]:=by intro j y;rw [W];exact Ah (B8 hs Z Y b j y hl) R (az.jA F) F.one
  have E:∀r:Array Value,P.built t (o.map λ(i,x)=>(i,a.eval x)).toList=some r->az w (AA c w O) ρ cs r.toList->(∀u∈r.toList,u.oneCell'=true/\u.cells= #[u])->
    ∃v,(Instr.build t (o.map λ(i,x)=>(i,a.eval x))).run P w= .ok v w/\ah w (AA c w O) ρ (.agg cs) v:=by
   intro r X m K;exact⟨_,run_build w t _ r X,by simp only [ah];exact⟨r.toList,by simp,m,K⟩⟩
  cases k:P.underlying t with
  | none=>simp [nE,k] at b
  | some d=>
   cases d <;> simp only [nE,k,LY] at b
   case struct C=>
    have q:C.toList.mapM (λf=>(P.info? f.type).map λi=>(f.offset,i.size))=some (C.toList.map λx=>(x.offset,P.cellsOf x.type)):=by
     generalize C.toList=l at b;induction l with
     | nil=>rfl
     | cons f l ih=>simp only [MN,Lu] at b;obtain⟨d,L⟩:=MX.1 b.1;obtain⟨i,D,B⟩:=sN L;simp only [OC,D,M2,Option.bind_eq_bind,Lt,ih b.2,Option.pure_def,L6,B]
    obtain⟨r,H,I,J⟩:=key ((C.toList.map λx=>(x.offset,P.cellsOf x.type)).toArray[·]?) (λf p M=>by
     obtain⟨_,h | ⟨n,e,h,_⟩⟩:=B6 M (by simp [nE,k,b])
     .obtain⟨Q,m,K⟩:=h;rw [k] at m;simp only [Lo,TypeDesc.struct.injEq] at m;subst m;simpa using K
     .rw [k] at h;simp at h)
    refine E r ?_ I J;simp only [Program.built,D,k,G,q];exact H
   case array n e=>
    obtain⟨d,L⟩:=MX.1 b;obtain⟨V,S,B⟩:=sN L;obtain⟨r,H,I,J⟩:=key (λi=>some (i * V.size,V.size)) (λf p M=>by
     obtain⟨_,⟨Q,m,_⟩ | ⟨n',e',h,U⟩⟩:=B6 M (by simp [nE,k,b])
     .rw [k] at m;simp at m
     .rw [k] at h;simp only [Lo,TypeDesc.array.injEq] at h;obtain⟨rfl,rfl⟩:=h;subst U;simp [B])
    refine E r ?_ I J;simp only [Program.built,D,k,G,S];exact H
 .simp at e
end
open Go Go.IntKind
section
variable {P:Program} {w w':World} {A A':Nat->Prop} {c:Ctx} {ρ:Id->Option Value} {O:Id->Option Nat} {s:St} {cc:Option Bool} {h:Id->Option ab}
def cg(w:World)(A:Nat->Prop)(sz:Nat):List (List T)->List (List Value)->Prop
 | [],vss=>vss= []
 | cs::xs,vss=>∃vs r,vss=vs::r/\cs.length=sz/\aQ w A cs vs/\cg w A sz xs r
theorem cg.mono{sz:Nat}(a:∀b,A b->A' b/\w'.heap[b]? =w.heap[b]?):∀{xs:List (List T)} {vss:List (List Value)},cg w A sz xs vss->cg w' A' sz xs vss
 | [],_,h=>h
 | cs::xs,vss,⟨vs,r,e,d,f,g⟩=>⟨vs,r,e,d,aQ.mono a cs vs f,cg.mono a g⟩
theorem cg.length{sz:Nat}:∀{xs:List (List T)} {vss:List (List Value)},cg w A sz xs vss->vss.length=xs.length/\vss.flatten.length=xs.length * sz
 | [],vss,h=>by simp only [cg] at h;subst h;simp
 | cs::xs,vss,⟨vs,r,e,d,f,g⟩=>by subst e;obtain⟨a,b⟩:=cg.length g;have:=f.length;refine⟨by simp [a], ?_⟩;simp only [M1,Mw,b,this,d,LD,Mn];omega
theorem cg.one{sz:Nat}:∀{xs:List (List T)} {vss:List (List Value)},cg w A sz xs vss->∀u∈vss.flatten,u.oneCell'=true/\u.cells= #[u]
 | [],vss,h,u,hu=>by simp only [cg] at h;subst h;simp at hu
 | cs::xs,vss,⟨vs,r,e,d,a,b⟩,u,hu=>by
  subst e;simp only [M1,LI] at hu;rcases hu with hu | hu
  .exact a.one u hu
  .exact cg.one b u hu
theorem cg.append{sz:Nat}:∀{xs d:List (List T)} {vss a:List (List Value)},cg w A sz xs vss->cg w A sz d a->cg w A sz (xs++d) (vss++a)
 | [],_,vss,_,h,b=>by simp only [cg] at h;subst h;simpa using b
 | cs::xs,d,vss,a,⟨vs,r,e,f,g,i⟩,b=>by subst e;exact⟨vs,r++a,rfl,f,g,cg.append i b⟩
theorem aZ.be{ae sz:Nat}:∀{off:Nat} {xs:List (List T)},aZ w A ae sz off xs->∃vss,cg w A sz xs vss/\∀p v,vss.flatten[p]? =some v->w.cell? ⟨ae,off+p,none⟩=some v
 | _,[],_=>⟨[],rfl,by simp⟩
 | off,cs::xs,h=>by
  simp only [aZ] at h;obtain⟨vs,b,d⟩:=h.2.1.be;obtain⟨r,e,f⟩:=aZ.be h.2.2;refine⟨vs::r,⟨vs,r,rfl,h.1,b,e⟩,λp v a=> ?_⟩;have hl:=b.length;rw [h.1] at hl;rw [M1] at a;by_cases g:p < sz
  .rw [LL (by omega)] at a;exact d p v a
  .rw [L7 (by omega),hl] at a;have:=f _ v a;rw [show off+sz+ (p - sz)=off+p by omega] at this;exact this
theorem aZ.jb{ae sz:Nat}:∀{off:Nat} {xs:List (List T)} {vss:List (List Value)},cg w A sz xs vss->(∀p v,vss.flatten[p]? =some v->w.cell? ⟨ae,off+p,none⟩=some v)->aZ w A ae sz off xs
 | _,[],_,_,_=>by simp [aZ]
 | off,cs::xs,vss,⟨vs,r,e,a,b,g⟩,f=>by
  subst e;have hl:=b.length;rw [a] at hl;simp only [aZ];refine⟨a,aX.jb b (λj v d=>f j v ?_),aZ.jb g (λp v i=> ?_)⟩
  .rw [M1,LL (Ls.1 d).1];exact d
  .have:=f (sz+p) v (by rw [M1,L7 (by omega),hl,show sz+p - sz=p by omega];exact i);rw [show off+sz+p=off+ (sz+p) by omega];exact this
theorem HS.sY{i:Id}(hs:HS c w h ρ O)(d:h i=none){xs:List (List T)}{vss:List (List Value)}{sz:Nat}(t:TypeId)(cells:Array Value)(cap:Nat)(j:cg w (AA c w O) sz xs vss)
  (f:∀(p:Nat) (v:Value),vss.flatten[p]? =some v->cells[p]? =some v) (a:xs.length<=cap) (k:cap * sz<=cells.size) (hrl:i.real=true:=by rfl):
  Le w ρ O (w.alloc (.cells cells t)) (aG ρ i (some (.slice (some ⟨w.heap.size,0,none⟩) xs.length cap))) (aG O i (some w.heap.size))/\
  HS c (w.alloc (.cells cells t)) (aG h i (some (.sl false sz false xs))) (aG ρ i (some (.slice (some ⟨w.heap.size,0,none⟩) xs.length cap))) (aG O i (some w.heap.size)):=by
 have le:=Le.alloc hs hrl d (.cells cells t) (.slice (some ⟨w.heap.size,0,none⟩) xs.length cap) (some w.heap.size) (.inr rfl);refine⟨le,hs.alloc hrl d _ _ _ (.inr rfl) _ ⟨_,by rw [aB],⟨some ⟨w.heap.size,0,none⟩,cap,rfl,a,by simp,trivial, .inr ⟨w.heap.size,0,cells,t,rfl,by simp,iU _,by omega, ?_⟩⟩,by simp⟩⟩;refine aZ.jb (cg.mono (λb e=>le.A b e) j) (λp v g=> ?_);rw [iS (iU _),L5];exact f p v g
theorem zU{a:Act}{g:Option Gs}{e:TypeId}(hs:HS c w s.h ρ O)(D:SS w (AA c w O) ρ s.t a.tmps)(C:iO a.tmps g){O':Id->Option Nat}(le:Le w ρ O w ρ O')(m:∀i,O' i=O i\/O' i=none):
  ∀{y:List (Nat×Operand)} {n:Nat} {q:List (List T)×aC},fP P s.h e (s.get g) n y=some q->(∀p∈q.2,O' p.1=none)->
   ∃vs:List Value,(y.map λx=>(x.1,a.eval x.2))= ((vs.zipIdx n).map λx=>(x.2,x.1))/\cg w (AA c w O') (P.cellsOf e) q.1 (vs.map λv=>v.cells.toList)/\(∀v∈vs,v.cells.size=P.cellsOf e)
 | [],n,q,b,_=>by simp only [fP,Lo] at b;subst b;exact⟨[],rfl,by simp [cg],by simp⟩
 | (k,o)::y,n,q,b,r=>by
  simp only [fP] at b;obtain⟨l,hl,b⟩:=Lp.1 b;split at b
  .rename_i j;obtain⟨rfl,d⟩:=j;obtain⟨K,B,b⟩:=Lp.1 b;simp only [Lo] at b;subst b;simp only [LI] at r;obtain⟨vs,E,F,G⟩:=zU hs D C le m B (λp u=>r p (.inr u));have I:=SS.get (h:=s.h) D C o;obtain⟨z,J⟩:=xp hs I hl le m (λp u=>r p (.inl u));have H:=z.length;refine⟨a.eval o::vs, ?_,⟨_,_,rfl,d,z,F⟩, ?_⟩
   .simp only [L6,List.zipIdx_cons,E]
   .intro v f;rcases LC.1 f with rfl | f
    .rw [<-LU,H,d]
    .exact G v f
  .simp at b
theorem zT{e:TypeId}{ev:Operand->AV}:∀{b:List (Nat×Operand)} {n:Nat} {q:List (List T)×aC},fP P h e ev n b=some q->eZ h q.2/\q.1.length=b.length
 | [],n,q,a=>by simp only [fP,Lo] at a;subst a;exact⟨(λp i=>by cases i),rfl⟩
 | (k,o)::b,n,q,a=>by
  simp only [fP] at a;obtain⟨l,hl,a⟩:=Lp.1 a;split at a
  .obtain⟨j,d,a⟩:=Lp.1 a;simp only [Lo] at a;subst a;obtain⟨f,g⟩:=zT d;exact⟨(vB _).append f,by simp [g]⟩
  .simp at a
theorem tB{t e:TypeId}{n:Nat}(u:P.underlying t=some (.slice e))(l:bP P e=true)(d:(fZ P e).isSome=true)(b: 0 < P.cellsOf e)(g:n<=1000/\P.cellsOf e<=1000)(vs:List Value)(y:∀v∈vs,v.cells.size=P.cellsOf e)(j:vs.length=n)
  (o:Array (Nat×Value)) (a:o.toList= (vs.zipIdx 0).map λx=>(x.2,x.1)):
  (Instr.buildSlice t n o).run P w= .ok (.slice (some ⟨w.heap.size,0,none⟩) n n) (w.alloc (.cells (vs.flatMap λv=>v.cells.toList).toArray e)):=by
 obtain⟨z,d⟩:=MX.1 d;obtain⟨i,zv,r,m,_⟩:=lC d;have B:n * P.cellsOf e<=1000 * 1000:=OE g.1 g.2;have q:¬(n * P.cellsOf e > 2 ^ 24):=by
  have f:(2:Nat) ^ 24=16777216:=by decide
  rw [f];omega
 have p:=Go.Great.fill_whole b vs;unfold Instr.buildSlice;simp only [LP,run_underlying u,LA,gL l,if_neg q,Sem.run_ite];by_cases h0:n * P.cellsOf e=0
 .have k:n=0:=by rcases Nat.mul_eq_zero.1 h0 with e | e <;> omega
  subst k;have:vs= []:=LR.1 j;subst this;simp only [Nat.zero_mul,if_true,L8,LA];simp only [List.zipIdx_nil,MD] at a;simp [a,Instr.fill,newRow,Array.range_zero']
 .simp only [if_neg h0,LP,zeroValue,typeInfo,run_program,LA,r,L8,m];rw [a,p _ y (by simp [j])];simp [newRow]
theorem CP{t e:TypeId}{b:List T}{n m:Int}{kn km:IntKind}(u:P.underlying t=some (.slice e))(v:fZ P e=some b)(q:P.bytesOf e<=8192)(r:b.length=P.cellsOf e)(h0: 0<=n)(p:n<=m)(f:m<=kc):
  ∃zv:Value,aQ w A b zv.cells.toList/\(Instr.makeSlice t (.int kn n) (.int km m)).run P w= .ok (.slice (some ⟨w.heap.size,0,none⟩) n.toNat m.toNat) (w.alloc (.cells (madeCells zv.cells (m.toNat * P.cellsOf e)) e)):=by
 obtain⟨i,zv,a,l,j⟩:=lC v;have k:P.cellsOf e=i.size:=by simp [Program.cellsOf,a]
 have g:P.bytesOf e=i.bytes:=by simp [Program.bytesOf,a]
 refine⟨zv,mc j, ?_⟩;rw [k];refine run_make w t e i zv u a l kn km n m h0 p ?_ ?_
 .rw [g] at q;have:(i.bytes:Int) * m<=8192 * 4294967296:=by
   have o:(i.bytes:Int)<=8192:=by omega
   have d:m<=4294967296:=by simpa [kc] using f
   calc (i.bytes:Int) * m<=8192 * m:=Oc o (by omega)
    _<=8192 * 4294967296:=Oj d (by omega)
  omega
 .have d:m<=4294967296:=by simpa [kc] using f
  omega
theorem wc{zv:Array Value}{sz:Nat}(b:zv.size=sz)(n m:Nat)(i:n<=m):∀(p:Nat) (v:Value),(List.replicate n zv.toList).flatten[p]? =some v->(madeCells zv (m * sz))[p]? =some v:=by
 intro p v a;have d:p < n * sz:=by have:=(Ls.1 a).1;simpa [b] using this
 have g: 0 < sz:=by
  rcases Nat.eq_zero_or_pos sz with e | e
  .rw [e] at d;simp at d
  .exact e
 have hm:n * sz<=m * sz:=Mm _ i;have key:∀n p,p < n * sz->(List.replicate n zv.toList).flatten[p]? =zv[p % sz]?:=by
  intro n;induction n with
  | zero=>intro p h;simp at h
  | succ n j=>
   intro p h;rw [MI,M1];by_cases a:p < sz
   .rw [LL (by simpa [b] using a),Nat.mod_eq_of_lt a];simp
   .rw [L7 (by simp [b];omega)];simp only [LU,b];have k:(n+1) * sz=n * sz+sz:=Mn _ _;rw [j _ (by omega)];congr 1;exact(Nat.mod_eq_sub_mod (by omega)).symm
 rw [key n p d] at a;have f:p % sz < zv.size:=by rw [b];exact Nat.mod_lt _ g
 simp only [madeCells,Array.getElem?_map];rw [M8 (by simp;omega)];simp only [Array.getElem_range,M2,b];rw [M8 f] at a;rw [getElem!_pos zv _ f];exact a
theorem cg.replicate{sz:Nat}{a:List T}{vs:List Value}(b:aQ w A a vs)(hl:a.length=sz):∀n,cg w A sz (List.replicate n a) (List.replicate n vs)
 | 0=>rfl
 | n+1=>⟨vs,List.replicate n vs,rfl,hl,b,cg.replicate b hl n⟩
end
end Go.Aev
