import Derived.Test.YtcjplcpngagalaaGreatDoorBlastFormQ1
import Derived.ChangeKeysEq
import Derived.Deep.AppendSrc
import Derived.Great.FillDense
set_option linter.all false
namespace Go.Aev
open Go Go.IntKind
section
variable {P:Program} {w:World} {A:Nat->Prop}
theorem T.fp{k:IntKind}{x:T}{n:Int}(h:x.int? k=some n):x= .int k n:=by cases x <;> simp only [T.int?,reduceCtorEq] at h;split at h <;> simp_all
theorem T.gL{x:T}{b:Bool}(h:x.bool? =some b):x= .bool b:=by cases x <;> simp_all [T.bool?]
theorem T.iY{x:T}{s:ByteArray}(h:x.a8 =some s):x= .str s:=by cases x <;> simp_all [T.a8]
theorem T.tV{x:T}{cs:List T}(h:x.od =some cs):x= .ptr cs:=by cases x <;> simp_all [T.od]
theorem T.nY{sz:Nat}{x:T}{p:Bool×List (List T)}(h:x.au sz=some p):x= .ad sz p.1 p.2\/(x= .af p.1/\p.2= []):=by
 cases x <;> simp only [T.au,reduceCtorEq,M1] at h
 case ad a b xs=>split at h <;> simp_all;subst h;simp
 case af b=>subst h;simp
theorem Ij{w:World}{A:Nat->Prop}{y:T}{v:Value}(h:tz y=true)(a:ay w A y v):v= .slice none 0 0:=by
 unfold tz at h;split at h
 .simp only [ay] at a;rcases a with⟨_,h⟩ | ⟨h,_⟩
  .exact h
  .cases h
 .simp only [ay] at a;rcases a with⟨_,_,h⟩ | ⟨h,_⟩
  .exact h
  .cases h
 .cases h
theorem AV.jV{v:AV}{x:T}(h:v.t? =some x):v= .t x:=by cases v <;> simp_all [AV.t?]
theorem nT{d R:Type}[Inhabited d]{c:Option Bool}{m:Option d}{k:d->Option R}{r:R}(h:aa c m k=some r):
  ∃a,k a=some r/\(m=some a\/(m=none/\c=some false)):=by
 unfold aa at h;cases m with
 | some a=>exact⟨a,h, .inl rfl⟩
 | none=>cases c with
  | none=>simp at h
  | some b=>cases b with
   | true=>simp at h
   | false=>exact⟨_,h, .inr ⟨rfl,rfl⟩⟩
def ql(P:Program)(R:Value->World->Prop):Result Next->Prop
 | .ok (.value x) w'=>R x w'
 | .ok .skip w'=>R undef w'
 | .ok (.enter f args) w'=>Calls P f args w' λe a=>∃x,e= .returned x/\R x a
 | _=>False
def gF(P:Program)(o:Oper)(a:Act)(w:World)(R:Value->World->Prop):Prop:=ql P R ((execOp a.eval o).run P w)
theorem gF.mono{o:Oper}{a:Act}{R b:Value->World->Prop}(h:gF P o a w R)(d:∀x w',R x w'->b x w'):gF P o a w b:=by
 unfold gF at *
 generalize (execOp a.eval o).run P w=r at *
 cases r with
 | ok n w'=>
  cases n <;> simp only [ql] at h⊢
  case enter=>exact h.mono λe i ⟨x,f,g⟩=>⟨x,f,d _ _ g⟩
  all_goals exact d _ _ h
 | halt x w'=>simp [ql] at h
theorem gF.wp{o:Oper}{a:Act}{R:Value->World->Prop}{K:Act->World->Prop}{Q:Exit->Act->World->Prop}(h:gF P o a w R)(b:∀x w',R x w'->K (a.put o.dst x) w'):o.wp P a w K Q:=by
 unfold gF at h;unfold Oper.wp;generalize (execOp a.eval o).run P w=r at *
 cases r with
 | ok n w'=>
  cases n <;> simp only [ql] at h <;> simp only [Oper.upon]
  case enter=>exact h.mono λe g ⟨x,d,f⟩=>by subst d;exact b _ _ f
  all_goals first | exact b _ _ h | exact h.elim
 | halt x w'=>simp [ql] at h
theorem tv{t:TypeId}{d:TypeDesc}(h:P.underlying t=some d):∃i,P.info? t=some i/\P.cellsOf t=i.size:=by
 unfold Program.underlying at h;cases a:P.info? t with
 | none=>simp [a] at h
 | some i=>exact⟨i,rfl,by simp [Program.cellsOf,a]⟩
theorem gW{t:TypeId}(h:bW P t=true)(w:World):(sizeOf t).run P w= .ok (P.cellsOf t) w:=by unfold bW at h;obtain⟨d,a⟩:=Ou.1 h;obtain⟨i,b,hs⟩:=tv a;rw [hs];simp [sizeOf,typeInfo,b]
theorem pR{t:TypeId}(h:bW P t=true)(w:World):(isAgg t).run P w= .ok (bD P t) w:=by unfold bW at h;obtain⟨d,a⟩:=Ou.1 h;unfold isAgg bD;simp only [Nv,run_underlying a,Ni,a];cases d <;> rfl
theorem fv(k:IntKind)(n:Int)(w:World)(A:Nat->Prop):ay w A (.int k n) (.int k n):=by simp [ay]
theorem lM(b:Bool)(w:World)(A:Nat->Prop):ay w A (.bool b) (.bool b):=by simp [ay]
theorem jO(b:ByteArray)(w:World)(A:Nat->Prop):ay w A (.str b) (.string b):=by simp [ay]
theorem Fe{R:Type}{op:BinOp}{k:IntKind}{c:Option Bool}{x y:T}{K:T->Option R}{r:R}{t:TypeId}{j l:Value}(f:c=none\/c=some true)
  (g:ay w A x j) (i:ay w A y l) (h:oI op k c x y K=some r):
  ∃z m,K z=some r/\(∀w A,ay w A z m)/\(binOp op t j l).run P w= .ok m w:=by
 unfold oI at h;replace h:=aM h f;obtain⟨a,n,h⟩:=h;replace h:=aM h f;obtain⟨b,o,h⟩:=h;have:=T.fp n;subst this;have:=T.fp o;subst this;simp only [ay] at g i;subst g;subst i;cases op <;> simp only [reduceCtorEq] at h
 case quo=>
  replace h:=aM h f;obtain⟨_,h0,h⟩:=h;have d:b≠0:=by intro e;simp [e] at h0
  exact⟨_,_,h,by first | exact fv _ _ | exact lM _ | exact jO _,by simp [binOp,Op.intDiv,d]⟩
 case rem=>
  replace h:=aM h f;obtain⟨_,h0,h⟩:=h;have d:b≠0:=by intro e;simp [e] at h0
  exact⟨_,_,h,by first | exact fv _ _ | exact lM _ | exact jO _,by simp [binOp,Op.intDiv,d]⟩
 all_goals exact⟨_,_,h,by first | exact fv _ _ | exact lM _ | exact jO _,by simp [binOp,Op.intArith,Op.intBits,Op.intCmp]⟩
theorem L4{R:Type}{op:BinOp}{k ky:IntKind}{c:Option Bool}{x y:T}{K:T->Option R}{r:R}{t:TypeId}{j l:Value}(d:c=none\/c=some true)
  (g:ay w A x j) (i:ay w A y l) (h:pU op k ky c x y K=some r):
  ∃z m,K z=some r/\(∀w A,ay w A z m)/\(binOp op t j l).run P w= .ok m w:=by
 unfold pU at h;replace h:=aM h d;obtain⟨a,n,h⟩:=h;replace h:=aM h d;obtain⟨b,o,h⟩:=h;have:=T.fp n;subst this;have:=T.fp o;subst this;simp only [ay] at g i;subst g;subst i;replace h:=aM h d;obtain⟨_,h0,h⟩:=h;have f:¬b < 0:=by intro e;simp [e] at h0
 cases op <;> simp only [reduceCtorEq] at h
 all_goals exact⟨_,_,h,by first | exact fv _ _ | exact lM _ | exact jO _,by simp [binOp,Op.shift,f]⟩
theorem Ms{R:Type}{op:BinOp}{c:Option Bool}{x y:T}{K:T->Option R}{r:R}{t:TypeId}{j k:Value}(d:c=none\/c=some true)
  (g:ay w A x j) (i:ay w A y k) (h:pZ op c x y K=some r):
  ∃z l,K z=some r/\(∀w A,ay w A z l)/\(binOp op t j k).run P w= .ok l w:=by
 unfold pZ at h;replace h:=aM h d;obtain⟨a,m,h⟩:=h;replace h:=aM h d;obtain⟨b,n,h⟩:=h;have:=T.iY m;subst this;have:=T.iY n;subst this;simp only [ay] at g i;subst g;subst i;cases op <;> simp only [reduceCtorEq] at h
 case add=>
  replace h:=aM h d;obtain⟨_,h0,h⟩:=h;have o:a.size+b.size<=4294967296:=by
   by_cases e:a.size+b.size<=4294967296
   .exact e
   .simp [e] at h0
  have f:¬(((a.size+b.size:Nat):Int) > i64.max):=by
   have:i64.max=9223372036854775807:=by decide
   rw [this];omega
  exact⟨_,_,h,by first | exact fv _ _ | exact lM _ | exact jO _,by simp only [binOp,Op.stringOp,if_neg f];rfl⟩
 all_goals exact⟨_,_,h,by first | exact fv _ _ | exact lM _ | exact jO _,by simp [binOp,Op.stringOp]⟩
theorem Fm{R:Type}{op:BinOp}{t ty:TypeId}{c:Option Bool}{x y:T}{K:T->Option R}{r:R}{e f:Value}(a:c=none\/c=some true)
  (b:ay w A x e) (d:ay w A y f) (h:oK P op t ty c x y K=some r):
  (op≠ .eql/\op≠ .neq)/\∃z g,K z=some r/\(∀w A,ay w A z g)/\(binOp op t e f).run P w= .ok g w:=by
 unfold oK at h;cases op <;> simp only [reduceCtorEq] at h <;> refine⟨⟨by simp,by simp⟩, ?_⟩ <;> split at h <;> first | exact Fe a b d h | exact L4 a b d h | exact Ms a b d h | simp at h
theorem MH{R:Type}{op:UnOp}{t:TypeId}{c:Option Bool}{x:T}{K:T->Option R}{r:R}{f:Value}(e:c=none\/c=some true)
  (b:ay w A x f) (h:qc P op t c x K=some r):
  ∃z g,K z=some r/\(∀w A,ay w A z g)/\(Op.unary op f).run P w= .ok g w:=by
 unfold qc at h;split at h
 .replace h:=aM h e;obtain⟨a,d,h⟩:=h;have:=T.fp d;subst this;simp only [ay] at b;subst b;exact⟨_,_,h,by first | exact fv _ _ | exact lM _ | exact jO _,by simp [Op.unary,Op.intArith]⟩
 .replace h:=aM h e;obtain⟨a,d,h⟩:=h;have:=T.fp d;subst this;simp only [ay] at b;subst b;exact⟨_,_,h,by first | exact fv _ _ | exact lM _ | exact jO _,by simp [Op.unary,Op.intBits]⟩
 .replace h:=aM h e;obtain⟨a,d,h⟩:=h;have:=T.gL d;subst this;simp only [ay] at b;subst b;exact⟨_,_,h,by first | exact fv _ _ | exact lM _ | exact jO _,by simp [Op.unary]⟩
 .simp at h
theorem HG{R:Type}{d:Nat}{t:TypeId}{c:Option Bool}{x y:T}{K:Bool->Option R}{r:R}{m n:Value}(e:c=none\/c=some true)
  (f:ay w A x m) (g:ay w A y n) (h:jH P c t x y K=some r):∃b,K b=some r/\(Op.equalIn (d+1) t m n).run P w= .ok b w:=by
 unfold jH at h;split at h
 .rename_i k l;replace h:=aM h e;obtain⟨a,i,h⟩:=h;replace h:=aM h e;obtain⟨b,j,h⟩:=h;have:=T.fp i;subst this;have:=T.fp j;subst this;simp only [ay] at f g;subst f;subst g;exact⟨_,h,by simp [Op.equalIn,run_underlying l]⟩
 .rename_i l;replace h:=aM h e;obtain⟨a,i,h⟩:=h;replace h:=aM h e;obtain⟨b,j,h⟩:=h;have:=T.gL i;subst this;have:=T.gL j;subst this;simp only [ay] at f g;subst f;subst g;exact⟨_,h,by simp [Op.equalIn,run_underlying l]⟩
 .rename_i l;replace h:=aM h e;obtain⟨a,i,h⟩:=h;replace h:=aM h e;obtain⟨b,j,h⟩:=h;have:=T.iY i;subst this;have:=T.iY j;subst this;simp only [ay] at f g;subst f;subst g;exact⟨_,h,by simp [Op.equalIn,run_underlying l]⟩
 .simp at h
theorem wg{R:Type}{c:Option Bool}(d:List TypeId):∀(ts:List TypeId) (xs a:List T) (K:Bool->Option R),
  dS P c (ts++d) xs a K=dS P c ts (xs.take ts.length) (a.take ts.length) (λq=>dS P c d (xs.drop ts.length) (a.drop ts.length) λe=>K (q && e))
 | [],xs,a,K=>by simp [dS]
 | t::ts,[],a,K=>by simp [dS]
 | t::ts,x::xs,[],K=>by simp [dS]
 | t::ts,x::xs,y::a,K=>by simp only [NR,Nf,Px,List.drop_succ_cons,dS];congr 1;funext b;rw [wg d ts xs a];simp only [Bool.and_assoc]
theorem aR.take{cs:List T}{vs:List Value}(h:aR w A cs vs):∀n,aR w A (cs.take n) (vs.take n):=by
 intro n;induction n generalizing cs vs with
 | zero=>simp [aR]
 | succ n d=>
  cases cs with
  | nil=>simp only [aR] at h;subst h;simp [aR]
  | cons c cs=>obtain⟨v,r,rfl,a,b⟩:=h;exact⟨v,r.take n,rfl,a,d b⟩
theorem aR.drop{cs:List T}{vs:List Value}(h:aR w A cs vs):∀n,aR w A (cs.drop n) (vs.drop n):=by
 intro n;induction n generalizing cs vs with
 | zero=>simpa using h
 | succ n b=>
  cases cs with
  | nil=>simp only [aR] at h;subst h;simp [aR]
  | cons c cs=>obtain⟨v,r,rfl,d,a⟩:=h;exact b a
end
open Go Go.IntKind
section
variable {P:Program} {w:World} {A:Nat->Prop}
def iZ(P:Program)(t:TypeId)(vs:List Value):Value:=if bD P t=true then .agg vs.toArray else vs.headD undef
theorem rO{t:TypeId}(b:bW P t=true)(xs:Array Value)(off:Nat)(d:bD P t=false->P.cellsOf t=1)(e:off+P.cellsOf t<=xs.size)(w:World):
  (part t xs off).run P w= .ok (iZ P t ((xs.toList.drop off).take (P.cellsOf t))) w:=by
 unfold part iZ;simp only [Nv,pR b,Ni];cases f:bD P t
 .simp only [NA,if_false];rw [d f] at e⊢;have a:off < xs.size:=by omega
  have:xs[off]? =some xs[off]:=OP a;rw [this];have hl:off < xs.toList.length:=by simpa using a
  rw [O8 hl];simp
 .simp only [if_true,Nv,gW b,Ni,NJ];congr 2;apply OL;simp [Po,Py]
theorem aR.part{xs:List T}{vs:List Value}(h:aR w A xs vs)(off n:Nat):aR w A ((xs.drop off).take n) ((vs.drop off).take n):=(h.drop off).take n
theorem o9{R:Type}{c:Option Bool}(a:c=none\/c=some true):∀{ts:List TypeId} {xs d:List T} {K:Bool->Option R} {r:R},dS P c ts xs d K=some r->xs.length=ts.length/\d.length=ts.length
 | [],[],[],_,_,_=>⟨rfl,rfl⟩
 | t::ts,x::xs,y::d,K,r,h=>by
  simp only [dS] at h;have:∃b,dS P c ts xs d (λr=>K (b && r))=some r:=by
   unfold jH at h;split at h
   .replace h:=aM h a;obtain⟨_,_,h⟩:=h;replace h:=aM h a;obtain⟨_,_,h⟩:=h;exact⟨_,h⟩
   .replace h:=aM h a;obtain⟨_,_,h⟩:=h;replace h:=aM h a;obtain⟨_,_,h⟩:=h;exact⟨_,h⟩
   .replace h:=aM h a;obtain⟨_,_,h⟩:=h;replace h:=aM h a;obtain⟨_,_,h⟩:=h;exact⟨_,h⟩
   .simp at h
  obtain⟨b,g⟩:=this;obtain⟨e,f⟩:=o9 a g;simp [e,f]
 | [],[],_::_,_,_,h=>by simp [dS] at h
 | [],_::_,_,_,_,h=>by simp [dS] at h
 | _::_,[],_,_,_,h=>by simp [dS] at h
 | _::_,_::_,[],_,_,h=>by simp [dS] at h
theorem nQ{n:Nat}{t:TypeId}{ts:List TypeId}(h:eP P n t=some ts):bW P t=true:=by
 cases n with
 | zero=>simp [eP] at h
 | succ n=>
  simp only [eP] at h;unfold bW;cases a:P.underlying t with
  | none=>simp [a] at h
  | some d=>rfl
theorem Bi{n:Nat}{t:TypeId}{ts:List TypeId}(h:eP P n t=some ts)(a:bD P t=false):ts= [t]:=by
 cases n with
 | zero=>simp [eP] at h
 | succ n=>
  simp only [eP] at h;unfold bD at a;cases b:P.underlying t with
  | none=>simp [b] at h
  | some d=>cases d <;> simp_all
def uO(P:Program)(w:World)(A:Nat->Prop)(n:Nat):Prop:= ∀(t:TypeId) (ts:List TypeId),eP P n t=some ts->∀(d:Nat),n<=d->
 ∀(R:Type) (c:Option Bool),c=none\/c=some true->∀(xs f:List T) (a e:List Value) (K:Bool->Option R) (r:R),aR w A xs a->aR w A f e->dS P c ts xs f K=some r->
  ∃b,K b=some r/\(Op.equalIn d t (iZ P t a) (iZ P t e)).run P w= .ok b w
theorem A6{n d:Nat}(B:uO P w A n)(z:n<=d){X Y:Array Value}{R:Type}{c:Option Bool}(i:c=none\/c=some true):
  ∀(e:List Field) (off:Nat) (ts:List TypeId),ph P (eP P n) e off=some ts->∀(xs o:List T) (K:Bool->Option R) (r:R),aR w A xs (X.toList.drop off)->aR w A o (Y.toList.drop off)->
   dS P c ts xs o K=some r->∃b,K b=some r/\(Op.eqFields d X Y e).run P w= .ok b w
 | [],off,ts,h,xs,o,K,r,k,m,a=>by simp only [ph,M1] at h;subst h;obtain⟨F,G⟩:=o9 i a;have:=Ny.1 F;subst this;have:=Ny.1 G;subst this;exact⟨true,by simpa [dS] using a,by simp [Op.eqFields]⟩
 | f::e,off,ts,h,xs,o,K,r,k,m,a=>by
  simp only [ph] at h;by_cases j:f.offset=off/\f.name≠ "_"
  .rw [if_pos j] at h;cases hl:eP P n f.type with
   | none=>simp [hl] at h
   | some l=>
    simp only [hl,M6] at h;by_cases g:P.cellsOf f.type=l.length/\0 < l.length
    .rw [if_pos g] at h;obtain⟨hs,I⟩:=g;cases u:ph P (eP P n) e (off+l.length) with
     | none=>simp [u] at h
     | some q=>
      simp only [u,M6,M1] at h;subst h;obtain⟨J,L⟩:=o9 i a;simp only [N6] at J L;rw [wg] at a;obtain⟨v,x,D⟩:=B f.type l hl d z R c i _ _ _ _ _ _ (k.take l.length) (m.take l.length) a;have p:=k.drop l.length;have t:=m.drop l.length;rw [PW] at p t;obtain⟨C,y,E⟩:=A6 B z i e (off+l.length) q u _ _ _ _ p t x;have sx:=k.length;have M:=m.length;simp only [Oj,NB] at sx M;have one:bD P f.type=false->P.cellsOf f.type=1:=λH=>by rw [hs,Bi hl H];rfl
      refine⟨v && C,y, ?_⟩;simp only [Op.eqFields,ne_eq,j.2,not_false_eq_true,if_true,Nv];rw [j.1,rO (nQ hl) X off one (by rw [hs];omega) w];simp only [Ni];rw [rO (nQ hl) Y off one (by rw [hs];omega) w];simp only [Ni,hs,D];cases v
      .simp
      .simp [E]
    .rw [if_neg g] at h;simp at h
  .rw [if_neg j] at h;simp at h
theorem A7{n d:Nat}(D:uO P w A n)(C:n<=d){X Y:Array Value}{R:Type}{c:Option Bool}(i:c=none\/c=some true){e:TypeId}{l:List TypeId}(hl:eP P n e=some l)(hs:P.cellsOf e=l.length):
  ∀(m k:Nat) (xs p:List T) (K:Bool->Option R) (r:R),aR w A xs (X.toList.drop (k * P.cellsOf e))->aR w A p (Y.toList.drop (k * P.cellsOf e))->
   dS P c (List.replicate m l).flatten xs p K=some r->∃b,K b=some r/\(Op.eqItems d e (P.cellsOf e) X Y (List.range' k m)).run P w= .ok b w
 | 0,k,xs,p,K,r,j,o,a=>by obtain⟨F,G⟩:=o9 i a;have:=Ny.1 F;subst this;have:=Ny.1 G;subst this;exact⟨true,by simpa [dS] using a,by simp [Op.eqItems]⟩
 | m+1,k,xs,p,K,r,j,o,a=>by
  simp only [Om,OH] at a;obtain⟨I,J⟩:=o9 i a;simp only [N6] at I J;rw [wg] at a;obtain⟨g,B,f⟩:=D e l hl d C R c i _ _ _ _ _ _ (j.take l.length) (o.take l.length) a;have t:=j.drop l.length;have u:=o.drop l.length;have H:k * P.cellsOf e+l.length= (k+1) * P.cellsOf e:=by rw [hs,NY]
  rw [PW,H] at t u;obtain⟨z,q,v⟩:=A7 D C i hl hs m (k+1) _ _ _ _ t u B;have sx:=j.length;have E:=o.length;simp only [Oj,NB] at sx E;have one:bD P e=false->P.cellsOf e=1:=λy=>by rw [hs,Bi hl y];rfl
  by_cases h0:l.length=0
  ·
   refine⟨g && z,q, ?_⟩;have x:bD P e=true:=by
    cases y:bD P e
    .have:=one y;omega
    .rfl
   have L:∀(Z:Array Value) (w:World),(part e Z (k * P.cellsOf e)).run P w= .ok (iZ P e []) w:=by intro Z w;unfold part iZ;simp only [Nv,pR (nQ hl),Ni,x,if_true,gW (nQ hl),NJ,hs,h0];simp
   simp only [Pp,Op.eqItems,Nv,L,Ni];rw [h0] at f;simp only [Qa] at f;rw [f];cases g
   .simp
   .simp [v]
  .refine⟨g && z,q, ?_⟩;simp only [Pp,Op.eqItems,Nv];rw [rO (nQ hl) X _ one (by rw [hs] at sx⊢;omega) w];simp only [Ni];rw [rO (nQ hl) Y _ one (by rw [hs] at E⊢;omega) w];simp only [Ni,hs];rw [hs] at f v;simp only [f,Ni];cases g
   .simp
   .simp [v]
theorem wh:∀n,uO P w A n
 | 0=>by intro t ts h;simp [eP] at h
 | n+1=>by
  intro t ts h d Y R c k xs o V W K r B C j;obtain⟨d,rfl⟩:∃N,d=N+1:=⟨d - 1,by omega⟩;have M:=wh n;simp only [eP] at h;have a:bD P t=false->ts= [t]->∃b,K b=some r/\(Op.equalIn (d+1) t (iZ P t V) (iZ P t W)).run P w= .ok b w:=by
   intro T L;subst L;obtain⟨D,E⟩:=o9 k j;cases xs with
   | nil=>simp at D
   | cons x xs=>cases o with
    | nil=>simp at E
    | cons y o=>simp only [Nf,Nw,NF,Nat.add_eq_right,Ny] at D E;subst D;subst E;obtain⟨v,q,rfl,Q,hq⟩:=B;obtain⟨u,p,rfl,S,Z⟩:=C;simp only [dS,Og] at j;simpa [iZ,T] using HG (d:=d) k Q S j
  cases f:P.underlying t with
  | none=>simp [f] at h
  | some ds=>
   cases ds <;> simp only [f,reduceCtorEq,M1] at h
   case int=>exact a (by simp [bD,f]) h.symm
   case bool=>exact a (by simp [bD,f]) h.symm
   case string=>exact a (by simp [bD,f]) h.symm
   case struct F=>
    split at h
    .simp at h
    .rename_i J;have g:bD P t=true:=by simp [bD,f]
     have H:P.underlying t=some (.struct (P.fieldsOf t)):=by simp [Program.fieldsOf,f]
     have I:P.fieldsOf t=F:=by simp [Program.fieldsOf,f]
     simp only [iZ,g,if_true];rw [run_equalIn_struct w d t _ _ H (by simpa using J),I];exact A6 M (by omega) k F.toList 0 ts h xs o K r (by simpa using B) (by simpa using C) j
   case array m e=>
    cases hl:eP P n e with
    | none=>simp [hl] at h
    | some l=>
     simp only [hl,M6] at h;split at h
     .rename_i hs;simp only [M1] at h;subst h;have g:bD P t=true:=by simp [bD,f]
      have z:=nQ hl;unfold bW at z;obtain⟨X,G⟩:=Ou.1 z;obtain⟨i,U,_⟩:=tv G;simp only [iZ,g,if_true];rw [run_equalIn_array w d _ _ f U,PO];exact A7 M (by omega) k hl hs m 0 xs o K r (by simpa using B) (by simpa using C) j
     .simp at h
theorem AZ{R:Type}{ρ:Id->Option Value}{t:TypeId}{c:Option Bool}{x y:AV}{K:Bool->Option R}{r:R}{v z:Value}(l:c=none\/c=some true)
  (f:ai w A ρ x v) (g:ai w A ρ y z) (h:nM P c t x y K=some r) (B C:Operand):
  ∃b,K b=some r/\((eqGuard .eql t B C v z).run P w= .ok () w/\(binOp .eql t v z).run P w= .ok (.bool b) w)/\((eqGuard .neq t B C v z).run P w= .ok () w/\(binOp .neq t v z).run P w= .ok (.bool (!b)) w):=by
 unfold nM at h;split at h
 .rename_i x y;simp only [ai] at f g;cases p:wM P t
  .simp only [p,cond_false] at h;have d:=h;unfold jH at d;split at d
   .rename_i k u;replace d:=aM d l;obtain⟨a,o,d⟩:=d;replace d:=aM d l;obtain⟨b,j,d⟩:=d;have:=T.fp o;subst this;have:=T.fp j;subst this;simp only [ay] at f g;subst f;subst g;exact⟨_,d,⟨by simp [eqGuard],by simp [binOp,Op.intCmp]⟩,⟨by simp [eqGuard],by simp [binOp,Op.intCmp,bne]⟩⟩
   .rename_i u;replace d:=aM d l;obtain⟨a,o,d⟩:=d;replace d:=aM d l;obtain⟨b,j,d⟩:=d;have:=T.gL o;subst this;have:=T.gL j;subst this;simp only [ay] at f g;subst f;subst g;exact⟨_,d,⟨by simp [eqGuard],run_eql_bool w t a b u⟩,⟨by simp [eqGuard],run_neq_bool w t a b u⟩⟩
   .rename_i u;simp [wM,u] at p
   .simp at d
  .simp only [p,cond_true] at h;replace h:=aM h l;obtain⟨a,o,h⟩:=h;replace h:=aM h l;obtain⟨b,j,h⟩:=h;have:=T.iY o;subst this;have:=T.iY j;subst this;simp only [ay] at f g;subst f;subst g;exact⟨_,h,⟨by simp [eqGuard],by simp [binOp,Op.stringOp]⟩,⟨by simp [eqGuard],by simp [binOp,Op.stringOp]⟩⟩
 .rename_i xs J;cases m:(P.eqGuardType P.depth t || !bD P t)
  .simp only [m,cond_false] at h;simp only [OF,PY] at m;obtain⟨m,E⟩:=m;cases i:dK xs with
   | none=>simp [i] at h
   | some F=>
    cases n:dK J with
    | none=>simp [i,n] at h
    | some G=>
     cases q:eP P 8 t with
     | none=>simp [i,n,q] at h
     | some ts=>simp only [i,n,q,M6] at h;simp only [ai] at f g;obtain⟨H,rfl,f,_⟩:=f;obtain⟨I,rfl,g,_⟩:=g;have D:bD P t=true:=E;obtain⟨b,j,e⟩:=wh 8 t ts q 10000 (by omega) R c l F G H I K r (aR.jo i f) (aR.jo n g) h;simp only [iZ,D,if_true] at e;exact⟨b,j,⟨run_eqGuard_agg w .eql t B C _ _ m,by rw [run_eql_struct,e];rfl⟩,⟨run_eqGuard_agg w .neq t B C _ _ m,by rw [run_neq_struct,e];rfl⟩⟩
  .simp [m] at h
 .simp at h
end
open Go Go.IntKind
section
variable {P:Program} {w w':World} {A A':Nat->Prop} {c:Ctx} {ρ:Id->Option Value} {O:Id->Option Nat} {s:St} {cc:Option Bool}
theorem fK(b o j:Nat):(⟨b,o,none⟩:Addr).add j= ⟨b,o+j,none⟩:=by
 unfold Addr.add;split
 .rename_i h;subst h;rfl
 .rfl
theorem aZ.bh{ae:Nat}:∀{off:Nat} {cs:List T},aZ w A ae off cs->∃vs,aR w A cs vs/\∀j v,vs[j]? =some v->w.cell? ⟨ae,off+j,none⟩=some v
 | _,[],_=>⟨[],rfl,by simp⟩
 | off,x::cs,h=>by
  simp only [aZ] at h;obtain⟨⟨v,i,g⟩,b⟩:=h;obtain⟨vs,d,f⟩:=aZ.bh b;refine⟨v::vs,⟨v,vs,rfl,g,d⟩, ?_⟩;intro j u a;cases j with
  | zero=>simp at a;subst a;exact i
  | succ j=>
   have:=f j u (by simpa using a);have e:off+1+j=off+ (j+1):=by omega
   rw [e] at this;exact this
theorem aR.one:∀{cs:List T} {vs:List Value},aR w A cs vs->∀u∈vs,u.oneCell'=true/\u.cells= #[u]
 | [],vs,h,u,hu=>by simp only [aR] at h;subst h;cases hu
 | x::cs,vs,⟨v,r,e,a,b⟩,u,hu=>by
  subst e;rcases Nj.1 hu with rfl | hu
  .exact a.n8
  .exact aR.one b u hu
theorem uE{R:Type}(b:cc=none\/cc=some true):∀{n:Nat} {cs:List T} {K:List T->Option R} {r:R},mW cc n cs K=some r->∃l,l=cs.take n/\l.length=n/\K l=some r
 | 0,cs,K,r,h=>⟨[],by simp,rfl,h⟩
 | n+1,cs,K,r,h=>by
  simp only [mW] at h;replace h:=aM h b;obtain⟨x,a,h⟩:=h;obtain⟨l,d,e,f⟩:=uE b h;cases cs with
  | nil=>simp at a
  | cons y cs=>simp only [Oh,M1] at a;subst a;exact⟨y::l,by simp [d],by simp [e],f⟩
theorem yo:∀{n:Nat} {cs l:List AV},kK n cs=some l->l=cs.take n/\l.length=n
 | 0,cs,l,h=>by simp only [kK,M1] at h;subst h;simp
 | n+1,[],l,h=>by simp [kK] at h
 | n+1,x::cs,l,h=>by
  simp only [kK] at h;cases a:kK n cs with
  | none=>simp [a] at h
  | some q=>simp only [a,M6,M1] at h;subst h;obtain⟨b,d⟩:=yo a;exact⟨by simp [b],by simp [d]⟩
theorem xU{t:TypeId}(a:bW P t=true)(d:bD P t=true)(b off:Nat)(vs:List Value)(hl:vs.length=P.cellsOf t)(h:∀j v,vs[j]? =some v->w.cell? ⟨b,off+j,none⟩=some v):
  (loadVar t ⟨b,off,none⟩).run P w= .ok (.agg vs.toArray) w:=by
 unfold loadVar;simp only [Nv,pR a,Ni,d,if_true,gW a,<-hl];rw [run_loadCells_list w ⟨b,off,none⟩ vs (λj v e=>by rw [fK];exact h j v e)];rfl
theorem uq{t:TypeId}(d:bW P t=true)(a:bD P t=false)(b off:Nat)(v:Value)(h:w.cell? ⟨b,off,none⟩=some v):
  (loadVar t ⟨b,off,none⟩).run P w= .ok v w:=by
 unfold loadVar;simp only [Nv,pR d,Ni,a,NA,if_false];rw [run_load,h]
theorem mY{R:Type}{k:Ck}{x:T}{v:Value}{K:T->Option R}{r:R}(e:cc=none\/cc=some true)(a:ay w A x v)(h:eF k cc x K=some r):
  ∃y,K y=some r/\ay w A y v:=by
 unfold eF at h;cases k with
 | i k=>simp only at h;replace h:=aM h e;obtain⟨n,d,h⟩:=h;rw [T.fp d] at a;exact⟨_,h,a⟩
 | b=>simp only at h;replace h:=aM h e;obtain⟨n,d,h⟩:=h;rw [T.gL d] at a;exact⟨_,h,a⟩
 | s=>simp only at h;replace h:=aM h e;obtain⟨n,d,h⟩:=h;rw [T.iY d] at a;exact⟨_,h,a⟩
 | l sz=>
  simp only at h;replace h:=aM h e;obtain⟨p,j,h⟩:=h;refine⟨_,h, ?_⟩;rcases T.nY j with rfl | ⟨rfl,g⟩
  .exact a
  .rw [g];simp only [ay] at a⊢;rcases a with⟨f,rfl⟩ | ⟨f,ae,off,sp,rfl⟩
   .exact .inl ⟨f,trivial,rfl⟩
   .exact .inr ⟨f,ae,off,sp,0,rfl,by simp, .inl trivial,trivial⟩
 | x=>exact⟨_,h,a⟩
theorem rV{R:Type}(d:cc=none\/cc=some true):∀{ks:List Ck} {xs:List T} {vs:List Value} {K:List T->Option R} {r:R},aR w A xs vs->eC cc ks xs K=some r->
  ∃b,K b=some r/\aR w A b vs
 | [],xs,vs,K,r,a,h=>⟨_,h,a⟩
 | _::_,[],vs,K,r,a,h=>⟨_,h,a⟩
 | k::ks,x::xs,vs,K,r,a,h=>by obtain⟨v,q,rfl,g,i⟩:=a;simp only [eC] at h;obtain⟨y,h,e⟩:=mY d g h;obtain⟨b,h,f⟩:=rV d i h;exact⟨_,h,⟨v,q,rfl,e,f⟩⟩
theorem My{R:Type}{k:Ck}{x:T}{K:T->Option R}{r:R}(d:cc=none\/cc=some true)(h:eF k cc x K=some r):
  ∃y,K y=some r/\∀(w:World) (A:Nat->Prop) (v:Value),ay w A x v->ay w A y v:=by
 have e:eF k cc x K= (eF k cc x some).bind K:=by rw [lT];rfl
 rw [e] at h;obtain⟨y,f,h⟩:=M2.1 h;refine⟨y,h,λw A v a=> ?_⟩;obtain⟨z,b,a⟩:=mY d a f;simp only [M1] at b;subst b;exact a
theorem Mz{R:Type}{ks:List Ck}{xs:List T}{K:List T->Option R}{r:R}(d:cc=none\/cc=some true)(h:eC cc ks xs K=some r):
  ∃y,K y=some r/\∀(w:World) (A:Nat->Prop) (vs:List Value),aR w A xs vs->aR w A y vs:=by
 have e:eC cc ks xs K= (eC cc ks xs some).bind K:=by rw [p9];rfl
 rw [e] at h;obtain⟨y,f,h⟩:=M2.1 h;refine⟨y,h,λw A v a=> ?_⟩;obtain⟨z,b,a⟩:=rV d a f;simp only [M1] at b;subst b;exact a
theorem MB{R:Type}{t:TypeId}{v:AV}{K:AV->Option R}{r:R}(b:cc=none\/cc=some true)(h:kL P cc t v K=some r):
  ∃y,K y=some r/\∀(w:World) (A:Nat->Prop) (ρ:Id->Option Value) (u:Value),ai w A ρ v u->ai w A ρ y u:=by
 unfold kL at h;split at h
 .obtain⟨y,h,g⟩:=My b h;exact⟨_,h,λw A ρ u a=>by simp only [ai] at a⊢;exact g w A u a⟩
 .rename_i vs;split at h
  .rename_i l hl;obtain⟨y,h,g⟩:=Mz b h;refine⟨_,h,λw A ρ u a=> ?_⟩;simp only [ai] at a⊢;obtain⟨d,e,f,i⟩:=a;exact⟨d,e,az.jM (g w A d (aR.jo hl f)),i⟩
  .exact⟨_,h,λw A ρ u a=>a⟩
 .exact⟨_,h,λw A ρ u a=>a⟩
theorem uI{R:Type}(b:cc=none\/cc=some true):∀{ts:List TypeId} {vs:List AV} {K:List AV->Option R} {r:R},hI P cc ts vs K=some r->
  ∃y,K y=some r/\∀(w:World) (A:Nat->Prop) (ρ:Id->Option Value) (us:List Value),az w A ρ vs us->az w A ρ y us
 | [],vs,K,r,h=>⟨_,h,λw A ρ u a=>a⟩
 | _::_,[],K,r,h=>⟨_,h,λw A ρ u a=>a⟩
 | t::ts,v::vs,K,r,h=>by simp only [hI] at h;obtain⟨y,h,d⟩:=MB b h;obtain⟨j,h,f⟩:=uI b h;refine⟨_,h,λw A ρ us a=> ?_⟩;simp only [az] at a⊢;obtain⟨u,q,e,g,i⟩:=a;exact⟨u,q,e,d w A ρ u g,f w A ρ q i⟩
theorem tG{R:Type}{t:TypeId}(n:bW P t=true){b off:Nat}{cs:List T}{K:AV->Option R}{r:R}(e:cc=none\/cc=some true)(B:aZ w A b off cs)(h:jm P t cc cs K=some r):
  ∃i v,K i=some r/\(loadVar t ⟨b,off,none⟩).run P w= .ok v w/\ai w A ρ i v:=by
 obtain⟨vs,k,m⟩:=B.bh;unfold jm at h;cases d:bD P t
 .simp only [d,cond_false] at h;replace h:=aM h e;obtain⟨x,g,h⟩:=h;cases cs with
  | nil=>simp at g
  | cons y cs=>simp only [Oh,M1] at g;subst g;obtain⟨v,q,rfl,a,_⟩:=k;obtain⟨z,h,a⟩:=mY e a h;exact⟨_,v,h,uq n d b off v (by simpa using m 0 v rfl),by simpa [ai] using a⟩
 .simp only [d,cond_true] at h;obtain⟨l,hl,u,h⟩:=uE e h;have a:=k.take (P.cellsOf t);rw [<-hl] at a;have o:=a.length;obtain⟨C,h,p⟩:=rV e a h;refine⟨_,_,h,xU n d b off _ (by rw [o,u]) (λj v f=>m j v ?_), ?_⟩
  .rw [Pc] at f;split at f
   .exact f
   .cases f
  .simp only [ai];exact⟨_,rfl,az.jM p,a.one⟩
theorem IG{R:Type}{t:TypeId}(m:bW P t=true){b off:Nat}{cs:List AV}{vs:List Value}{K:AV->Option R}{r:R}(g:az w A ρ cs vs)(n:∀u∈vs,u.oneCell'=true/\u.cells= #[u])
  (k:∀j v,vs[j]? =some v->w.cell? ⟨b,off+j,none⟩=some v) (h:kB P t cs K=some r):
  ∃i v,K i=some r/\(loadVar t ⟨b,off,none⟩).run P w= .ok v w/\ai w A ρ i v:=by
 unfold kB at h;cases d:bD P t
 .simp only [d,cond_false] at h;cases cs with
  | nil=>simp at h
  | cons y cs=>simp only [Oh,M6] at h;simp only [az] at g;obtain⟨v,q,rfl,a,_⟩:=g;exact⟨_,v,h,uq m d b off v (by simpa using k 0 v rfl),a⟩
 .simp only [d,cond_true] at h;cases f:kK (P.cellsOf t) cs with
  | none=>simp [f] at h
  | some l=>
   simp only [f,M6] at h;obtain⟨hl,p⟩:=yo f;have a:=g.take (P.cellsOf t);rw [<-hl] at a;have o:=a.length;refine⟨_,_,h,xU m d b off _ (by rw [o,p]) (λj v e=>k j v ?_), ?_⟩
   .rw [Pc] at e;split at e
    .exact e
    .cases e
   .simp only [ai];exact⟨_,rfl,a,λu x=>n u (Pq x)⟩
theorem vf{i:Id}{cs:List AV}(hs:HS c w s.h ρ O)(k:s.h i=some (.box cs)):∃b arr t,ρ i=some (.pointer (some ⟨b,0,none⟩))/\O i=some b/\w.heap[b]? =some (.cells arr t (0,0))/\
  az w (AA c w O) ρ cs arr.toList/\(∀u∈arr.toList,u.oneCell'=true/\u.cells= #[u])/\∀j v,arr.toList[j]? =some v->w.cell? ⟨b,j,none⟩=some v:=by
 obtain⟨b,arr,t,d,e,a,f,g⟩:=hs.ae i _ k;refine⟨b,arr,t,d,e,a,f,g,λj v l=> ?_⟩;simp only [World.cell?,a];simpa using l
theorem oo{i:Id}{fz b:Bool}{sz:Nat}{l:List (List T)}(hs:HS c w s.h ρ O)(e:s.h i=some (.sl fz sz b l)):∃v,ρ i=some v/\cF w (AA c w O) sz b l v (λae=>if fz=true then AA c w O ae else O i=some ae):=by obtain⟨v,a,d,_⟩:=hs.ae i _ e;exact⟨v,a,d⟩
theorem cn.get{i:Id}{ae sz col rsz:Nat}:∀{es:List Row} {base k:Nat} {e:Row},cn w A ρ O i ae sz col rsz base es->es[k]? =some e->gG w A ρ O i ae sz col rsz (base+k * sz) e
 | [],_,_,_,_,h=>by simp at h
 | x::es,base,0,e,a,h=>by simp only [N5,M1] at h;subst h;simpa using a.1
 | x::es,base,k+1,e,a,h=>by have:=cn.get a.2 (k:=k) (by simpa using h);rw [show base+ (k+1) * sz=base+sz+k * sz by rw [NY];omega];exact this
theorem cn.own{i:Id}{ae sz col rsz n:Nat}{p:Bool×List (List T)}:∀{es:List Row} {base:Nat},cn w A ρ O i ae sz col rsz base es->cv n es=some p->∃v,ρ (.g i n)=some v/\cF w A rsz p.1 p.2 v (λb=>O (.g i n)=some b)
 | [],_,_,h=>by simp [cv] at h
 | e::es,base,f,h=>by
  unfold cv at h;split at h
  .rename_i en;obtain⟨_,_,_,v,_,d,a⟩:=f.1;rw [h] at a;rw [en] at d a;exact⟨v,d,a⟩
  .exact cn.own f.2 h
theorem um{i:Id}{b:Bool}{sz col rsz j n:Nat}{es:List Row}{p:Bool×List (List T)}(hs:HS c w s.h ρ O)(f:s.h i=some (.rows b sz col rsz j es))(e:cv n es=some p):
  ∃v,ρ (.g i n)=some v/\cF w (AA c w O) rsz p.1 p.2 v (λb=>O (.g i n)=some b):=by
 obtain⟨a,cap,l,m,o,q,d⟩:=hs.ae i _ f;rcases d with d | ⟨ae,off,arr,t,r,u,x,y,k⟩
 .have:es= []:=Ny.1 (by omega);subst this;simp [cv] at e
 .exact k.own e
theorem xQ{R:Type}{i:Id}{n:Nat}{K:Nat->Bool->List (List T)->Option R}{r:R}(hs:HS c w s.h ρ O)(e:cc=none\/cc=some true)(h:jS s.h cc i n K=some r):
  ∃rsz b xs v,K rsz b xs=some r/\ρ (.g i n)=some v/\cF w (AA c w O) rsz b xs v (λae=>O (.g i n)=some ae):=by
 unfold jS at h;split at h
 .rename_i f;replace h:=aM h e;obtain⟨p,j,h⟩:=h;obtain⟨v,a,d⟩:=um hs f j;exact⟨_,_,_,v,h,a,d⟩
 .cases h
theorem gG.bh{i:Id}{ae sz col rsz base:Nat}{e:Row}(h:gG w A ρ O i ae sz col rsz base e):∃vs:List Value,vs.length=sz/\(∀j v,vs[j]? =some v->w.cell? ⟨ae,base+j,none⟩=some v)/\
  (∀j x v,j≠col->e.cs[j]? =some x->vs[j]? =some v->ay w A x v)/\∃v,vs[col]? =some v/\ρ (.g i e.n)=some v:=by
 obtain⟨D,t,l,v,m,y,E⟩:=h;have o:∀j,j < sz->∃u,w.cell? ⟨ae,base+j,none⟩=some u:=by
  intro j a;by_cases d:j=col
  .subst d;exact⟨v,m⟩
  .obtain⟨u,g,_⟩:=l j (e.cs[j]'(by omega)) d (Nc _);exact⟨u,g⟩
 have get:∀j u,((List.range sz).map λj=>(w.cell? ⟨ae,base+j,none⟩).getD undef)[j]? =some u->w.cell? ⟨ae,base+j,none⟩=some u:=by intro j u a;rw [Ob] at a;obtain⟨k,b,a⟩:=OV.1 a;obtain⟨p,b⟩:=M5.1 b;rw [List.getElem_range] at b;subst b;obtain⟨C,q⟩:=o j (by simpa using p);rw [q] at a⊢;simpa using a
 refine⟨_,by simp,get,λj x u a B z=> ?_,v, ?_,y⟩
 .obtain⟨C,f,r⟩:=l j x a B;rw [get j u z] at f;cases f;exact r
 .rw [Ob,List.getElem?_range t];simp [m]
theorem az.rz:∀{b:List AV} {vs:List Value},b.length=vs.length->(∀(j:Nat) (a:AV) (v:Value),b[j]? =some a->vs[j]? =some v->ai w A ρ a v)->az w A ρ b vs
 | [],[],_,_=>by simp [az]
 | [],_::_,h,_=>by simp at h
 | _::_,[],h,_=>by simp at h
 | a::b,v::vs,h,d=>by simp only [az];exact⟨v,vs,rfl,d 0 a v rfl rfl,az.rz (by simpa using h) λj a v e f=>d (j+1) a v (by simpa using e) (by simpa using f)⟩
theorem ED{R:Type}(p:cc=none\/cc=some true):∀{ks:List Ck} {xs:List T} {vs:List Value} {col:Nat} {K:List T->Option R} {r:R},xs.length=vs.length->(∀(j:Nat) (x:T) (v:Value),j≠col->xs[j]? =some x->vs[j]? =some v->ay w A x v)->
  (∀k,ks[col]? =some k->k= .x)->eC cc ks xs K=some r->∃b,K b=some r/\b.length=vs.length/\∀j x v,j≠col->b[j]? =some x->vs[j]? =some v->ay w A x v
 | [],xs,vs,col,K,r,hl,d,i,h=>⟨xs,h,hl,d⟩
 | k::ks,[],vs,col,K,r,hl,d,i,h=>⟨[],h,hl,by simp⟩
 | k::ks,x::xs,[],col,K,r,hl,d,i,h=>by simp at hl
 | k::ks,x::xs,v::vs,0,K,r,hl,d,i,h=>by
  simp only [eC] at h;have:k= .x:=i k rfl;subst this;simp only [eF] at h;have D:aR w A xs vs:=by
   have B:∀(xs:List T) (vs:List Value),xs.length=vs.length->(∀(j:Nat) (x:T) (v:Value),xs[j]? =some x->vs[j]? =some v->ay w A x v)->aR w A xs vs:=by
    intro xs;induction xs with
    | nil=>intro vs hl _;cases vs;rfl;simp at hl
    | cons x xs z=>
     intro vs hl d;cases vs with
     | nil=>simp at hl
     | cons v vs=>exact⟨v,vs,rfl,d 0 x v rfl rfl,z vs (by simpa using hl) λj x v e f=>d (j+1) x v (by simpa using e) (by simpa using f)⟩
   exact B xs vs (by simpa using hl) λj x v e f=>d (j+1) x v (by omega) (by simpa using e) (by simpa using f)
  obtain⟨b,h,g⟩:=rV p D h;have G:=g.length;refine⟨_,h,by simp;omega,λj y u t m l=> ?_⟩;cases j with
  | zero=>exact(t rfl).elim
  | succ j=>
   simp only [Oy] at m l;have:∀(b:List T) (vs:List Value) (j:Nat),aR w A b vs->b[j]? =some y->vs[j]? =some u->ay w A y u:=by
    intro b;induction b with
    | nil=>intro vs j _ h;simp at h
    | cons a b z=>
     rintro vs j ⟨H,q,rfl,n,o⟩ e f;cases j with
     | zero=>simp at e f;subst e;subst f;exact n
     | succ j=>exact z q j o (by simpa using e) (by simpa using f)
   exact this b vs j g m l
 | k::ks,x::xs,v::vs,col+1,K,r,hl,d,i,h=>by
  simp only [eC] at h;obtain⟨y,h,n⟩:=mY p (d 0 x v (by omega) rfl rfl) h;obtain⟨b,h,o,E⟩:=ED p (col:=col) (by simpa using hl) (λj x v t e f=>d (j+1) x v (by omega) (by simpa using e) (by simpa using f)) (λk C=>i k (by simpa using C)) h;refine⟨_,h,by simp [o],λj F u t m l=> ?_⟩;cases j with
  | zero=>simp at m l;subst m;subst l;exact n
  | succ j=>exact E j F u (by omega) (by simpa using m) (by simpa using l)
theorem ID{R:Type}{t:TypeId}{i:Id}{ae sz col rsz base off:Nat}{e:Row}{h:Id->Option ab}{K:AV->Option R}{r:R}(hs:HS c w h ρ O)(C:bW P t=true)(o:cc=none\/cc=some true)(m:gG w (AA c w O) ρ O i ae sz col rsz base e)(b:pv P t cc i sz col off e K=some r):
  ∃E v,K E=some r/\(loadVar t ⟨ae,base+off,none⟩).run P w= .ok v w/\ai w (AA c w O) ρ E v:=by
 unfold pv at b;cases g:bD P t
 .simp only [g,cond_false] at b;split at b
  .rename_i d;subst d;obtain⟨_,_,_,v,N,Q,_⟩:=m;exact⟨_,v,b,uq C g _ _ v N,by simp only [ai];exact Q⟩
  .rename_i H;replace b:=aM b o;obtain⟨x,z,b⟩:=b;have I:e.cs[off]? =some x:=by rw [List.head?_drop] at z;exact z
   obtain⟨u,B,n⟩:=m.2.2.1 off x H I;obtain⟨y,b,M⟩:=mY o n b;exact⟨_,u,b,uq C g _ _ u B,by simp only [ai];exact M⟩
 .simp only [g,cond_true] at b;split at b
  .rename_i p;obtain⟨rfl,Y⟩:=p;obtain⟨l,hl,Z,b⟩:=uE o b;have T:=m.1;have G:l=e.cs:=by rw [hl,PH (by omega)]
   subst G;obtain⟨vs,v1,V,W,vc,J,L⟩:=m.bh;have S:=m.2.1;obtain⟨X,b,B,n⟩:=ED o (ks:=(qn P t).set col .x) (col:=col) (by omega) W (λk b=>by
    rw [On] at b;simp only [if_true] at b;split at b
    .simpa using b.symm
    .cases b) b
   refine⟨_, .agg vs.toArray,b, ?_, ?_⟩
   .rw [Pa];exact xU C g _ _ vs (by omega) V
   .simp only [ai];refine⟨vs,rfl,az.rz (by simp [B]) λj a v f D=> ?_,λu U=> ?_⟩
    .rw [On] at f;by_cases d:col=j
     .subst d;rw [if_pos rfl] at f;split at f
      .simp only [M1] at f;subst f;rw [J] at D;cases D;simp only [ai];exact L
      .cases f
     .rw [if_neg d,Ob] at f;obtain⟨x,z,rfl⟩:=OV.1 f;simp only [ai];exact n j x v (λe=>d e.symm) z D
    .obtain⟨j,q⟩:=Pk.1 U;by_cases d:j=col
     .subst d;rw [J] at q;cases q;exact hs.gone _ _ _ L
     .have F:j < X.length:=by have:=(M5.1 q).1;omega
      exact(n j _ u d (Nc F) q).n8
  .cases b
theorem Ce{R:Type}{t:TypeId}{a:AV}{va:Value}{K:AV->Option R}{r:R}(hs:HS c w s.h ρ O)(g:ai w (AA c w O) ρ a va)(m:cc=none\/cc=some true)(h:fI P s cc t a K=some r):
  ∃f v,K f=some r/\(Instr.loadAt t va).run P w= .ok v w/\ai w (AA c w O) ρ f v:=by
 unfold fI at h;cases D:bW P t
 .simp [D] at h
 simp only [D,cond_true] at h;split at h
 .rename_i i off;split at h
  .rename_i cs F;obtain⟨b,arr,W,B,J,h3,U,E,h6⟩:=vf hs F;simp only [ai] at g;obtain⟨b',d,rfl⟩:=g;rw [B] at d;simp only [M1,OB,NZ] at d;obtain⟨rfl,_⟩:=d;obtain⟨f,v,q,N,Q⟩:=IG (b:=b) (off:=off) D (U.drop off) (λu hu=>E u (Pr hu)) (λj v hj=>h6 _ v (by rw [Pd] at hj;exact hj)) h;exact⟨f,v,q,by simpa [Instr.loadAt,Instr.sureAddr] using N,Q⟩
  .rename_i l F;obtain⟨b,B,J,h3,U⟩:=hs.ae i _ F;simp only [ai] at g;obtain⟨b',d,rfl⟩:=g;rw [B] at d;simp only [M1,OB,NZ] at d;obtain⟨rfl,_⟩:=d;have E:=U.drop off;rw [NF] at E;obtain⟨f,v,q,N,Q⟩:=tG D m E h;exact⟨f,v,q,by simpa [Instr.loadAt,Instr.sureAddr] using N,Q⟩
  .simp at h
 .rename_i i sz k off;split at h
  .rename_i fz sz' bb xs F;split at h
   .rename_i C;subst C;replace h:=aM h m;obtain⟨cs,p,h⟩:=h;obtain⟨v,B,J⟩:=oo hs F;simp only [ai] at g;obtain⟨b,o,L,cap,d,rfl⟩:=g;rw [B] at d;simp only [M1] at d;subst d;obtain⟨a',cap',q,N,Q,g4,S⟩:=J;simp only [N7] at q;obtain⟨rfl,rfl,rfl⟩:=q;have V:k < xs.length:=(M5.1 p).1;rcases S with S | ⟨ae,off',arr,W,z,X,Y,Z,y⟩
    .omega
    .simp only [M1,NZ] at z;obtain⟨rfl,rfl,_⟩:=z;obtain⟨_,M⟩:=y.get p;obtain⟨f,v,G,H,I⟩:=tG (ρ:=ρ) D m (M.drop off) h;exact⟨f,v,G,by simpa [Instr.loadAt,Instr.sureAddr] using H,I⟩
   .simp at h
  .rename_i bb sz' col rsz nx es F;split at h
   .rename_i C;subst C;replace h:=aM h m;obtain⟨e,p,h⟩:=h;obtain⟨a,cap,B,J,h3,U,E⟩:=hs.ae i _ F;simp only [ai] at g;obtain⟨b,o,L,cap',d,rfl⟩:=g;rw [B] at d;simp only [M1,N7] at d;obtain⟨rfl,rfl,rfl⟩:=d;have V:k < es.length:=(M5.1 p).1;rcases E with E | ⟨ae,off',arr,W,z,X,Y,Z,y⟩
    .omega
    .simp only [M1,NZ] at z;obtain⟨rfl,rfl,_⟩:=z;obtain⟨f,v,G,H,I⟩:=ID hs D m (y.get p) h;exact⟨f,v,G,by simpa [Instr.loadAt,Instr.sureAddr] using H,I⟩
   .simp at h
  .simp at h
 .rename_i i sz n k off;replace h:=xQ hs m h;obtain⟨rsz,bb,xs,v,h,hv,hsl⟩:=h;split at h
  .rename_i C;subst C;replace h:=aM h m;obtain⟨cs,p,h⟩:=h;simp only [ai] at g;obtain⟨b,o,L,cap,d,rfl⟩:=g;rw [hv] at d;simp only [M1] at d;subst d;obtain⟨a',cap',q,N,Q,g4,S⟩:=hsl;simp only [N7] at q;obtain⟨rfl,rfl,rfl⟩:=q;have V:k < xs.length:=(M5.1 p).1;rcases S with S | ⟨ae,off',arr,W,z,X,Y,Z,y⟩
   .omega
   .simp only [M1,NZ] at z;obtain⟨rfl,rfl,_⟩:=z;obtain⟨_,M⟩:=y.get p;obtain⟨f,v,G,H,I⟩:=tG (ρ:=ρ) D m (M.drop off) h;exact⟨f,v,G,by simpa [Instr.loadAt,Instr.sureAddr] using H,I⟩
  .simp at h
 .rename_i x;replace h:=aM h m;obtain⟨cs,p,h⟩:=h;have:=T.tV p;subst this;simp only [ai,ay] at g;obtain⟨ae,off,rfl,B,J⟩:=g;obtain⟨f,v,G,H,I⟩:=tG (ρ:=ρ) D m J h;exact⟨f,v,G,by simpa [Instr.loadAt,Instr.sureAddr] using H,I⟩
 .simp at h
theorem wk{t:TypeId}{f:Nat}{p:Nat×TypeId}(h:qG P t f=some p):∃a x,P.underlying t=some (.struct a)/\a[f]? =some x/\p= (x.offset,x.type)/\bW P p.2=true:=by
 unfold qG at h;split at h
 .rename_i a d;split at h
  .rename_i x e;cases b:bW P x.type
   .simp [b] at h
   .simp only [b,cond_true,M1] at h;subst h;exact⟨a,x,d,e,rfl,b⟩
  .simp at h
 .simp at h
theorem sX{t e:TypeId}(h:kW P t=some e):P.underlying t=some (.slice e)/\bW P e=true:=by
 unfold kW at h;split at h
 .rename_i e' b;cases a:bW P e'
  .simp [a] at h
  .simp only [a,cond_true,M1] at h;subst h;exact⟨b,a⟩
 .simp at h
theorem yU{t:TypeId}{p:Nat×TypeId}(h:sF P t=some p):P.underlying t=some (.array p.1 p.2)/\bW P p.2=true:=by
 unfold sF at h;split at h
 .rename_i n e' b;cases a:bW P e'
  .simp [a] at h
  .simp only [a,cond_true,M1] at h;subst h;exact⟨b,a⟩
 .simp at h
theorem HP{R:Type}{t:TypeId}{x:AV}{m:Value}{f:Nat}{K:AV->Option R}{r:R}(a:ai w A ρ x m)(C:cc=none\/cc=some true)(h:pe P cc t x f K=some r):
  ∃i v,K i=some r/\(Instr.fieldAt t m f).run P w= .ok v w/\ai w A ρ i v:=by
 unfold pe at h;split at h
 .rename_i off u D;obtain⟨G,y,q,z,l,B⟩:=wk D;simp only [NL] at l;obtain⟨rfl,rfl⟩:=l;split at h
  .simp at h
  .rename_i F;have d:∀b o,(Instr.fieldAt t (.pointer (some ⟨b,o,none⟩)) f).run P w= .ok (.pointer (some ⟨b,o+y.offset,none⟩)) w:=by
    intro b o;simp [Instr.fieldAt,run_underlying q,z,Instr.sureAddr,fieldPlace,gW B,F,fK]
   split at h
   .rename_i j o;simp only [ai] at a;obtain⟨b,e,rfl⟩:=a;exact⟨_,_,h,d _ _,by simp only [ai];exact⟨b,e,rfl⟩⟩
   .rename_i j sz k o;simp only [ai] at a;obtain⟨b,g,L,cap,e,rfl⟩:=a;exact⟨_,_,h,d _ _,by simp only [ai];exact⟨b,g,L,cap,e,by rw [O7]⟩⟩
   .rename_i j sz n k o;simp only [ai] at a;obtain⟨b,g,L,cap,e,rfl⟩:=a;exact⟨_,_,h,d _ _,by simp only [ai];exact⟨b,g,L,cap,e,by rw [O7]⟩⟩
   .rename_i H;replace h:=aM h C;obtain⟨cs,E,h⟩:=h;have:=T.tV E;subst this;simp only [ai,ay] at a;obtain⟨ae,o,rfl,g1,p⟩:=a;refine⟨_,_,h,d _ _, ?_⟩;simp only [ai,ay];refine⟨ae,_,rfl, ?_,p.drop _⟩;rcases g1 with rfl | g1
    .exact .inl (by simp)
    .exact .inr g1
   .simp at h
 .simp at h
theorem mw{R:Type}{i:Int}{n:Nat}{K:Option R}{r:R}(d:cc=none\/cc=some true)(h:iN cc i n K=some r): 0<=i/\i < n/\K=some r:=by
 unfold iN at h;replace h:=aM h d;obtain⟨_,a,h⟩:=h;split at a
 .rename_i b;exact⟨b.1,b.2,h⟩
 .simp at a
theorem Ig{R:Type}{t:TypeId}{x:AV}{vx:Value}{i:Int}{ki:IntKind}{K:AV->Option R}{r:R}(hs:HS c w s.h ρ O)(d:ai w (AA c w O) ρ x vx)(q:cc=none\/cc=some true)(h:iu P s cc t x i K=some r):
  ∃V v,K V=some r/\(Instr.indexAt t vx (.int ki i)).run P w= .ok v w/\ai w (AA c w O) ρ V v:=by
 unfold iu at h;split at h
 .rename_i e J;obtain⟨M,F⟩:=sX J;have g:∀b o len cap,0<=i->i < (len:Nat)->(Instr.indexAt t (.slice (some ⟨b,o,none⟩) len cap) (.int ki i)).run P w= .ok (.pointer (some ⟨b,o+i.toNat * P.cellsOf e,none⟩)) w:=by
   intro b o len cap h0 f;simp [Instr.indexAt,asIntOf,run_underlying M,h0,f,gW F,fK]
  split at h
  .rename_i j;split at h
   .rename_i fz sz bb xs D;split at h
    .rename_i m;subst m;obtain⟨h0,f,h⟩:=mw q h;obtain⟨v,g1,l⟩:=oo hs D;simp only [ai] at d;rw [g1] at d;simp only [M1] at d;subst d;obtain⟨I,cap',C,q2,q3,q4,u⟩:=l;rcases u with u | ⟨ae,off',arr,U,B,N,Q,S,G⟩
     .omega
     .subst B;subst C;exact⟨_,_,h,g _ _ _ _ h0 f,by simp only [ai];exact⟨ae,off',_,_,g1,by simp⟩⟩
    .simp at h
   .rename_i bb sz col rsz nx es D;split at h
    .rename_i m;subst m;obtain⟨h0,f,h⟩:=mw q h;obtain⟨a,cap,g1,l,W,g4,H⟩:=hs.ae j _ D;simp only [ai] at d;rw [g1] at d;simp only [M1] at d;subst d;rcases H with H | ⟨ae,off',arr,U,B,N,Q,S,G⟩
     .omega
     .subst B;exact⟨_,_,h,g _ _ _ _ h0 f,by simp only [ai];exact⟨ae,off',_,_,g1,by simp⟩⟩
    .simp at h
   .simp at h
  .rename_i j n;replace h:=xQ hs q h;obtain⟨rsz,bb,xs,v,h,Z,Y⟩:=h;split at h
   .rename_i m;subst m;obtain⟨h0,f,h⟩:=mw q h;simp only [ai] at d;rw [Z] at d;simp only [M1] at d;subst d;obtain⟨I,cap',C,q2,q3,q4,u⟩:=Y;rcases u with u | ⟨ae,off',arr,U,B,N,Q,S,G⟩
    .omega
    .subst B;subst C;exact⟨_,_,h,g _ _ _ _ h0 f,by simp only [ai];exact⟨ae,off',_,_,Z,by simp⟩⟩
   .simp at h
  .rename_i j sz off n;split at h
   .rename_i fz sz' bb xs D;split at h
    .rename_i m;obtain⟨rfl,rfl⟩:=m;obtain⟨h0,f,h⟩:=mw q h;obtain⟨v,g1,l⟩:=oo hs D;simp only [ai] at d;obtain⟨a,L,cap,I,z,e2,e3,rfl,e4⟩:=d;rw [g1] at z;simp only [M1] at z;subst z;obtain⟨a'',cap'',C,q2,q3,q4,u⟩:=l;simp only [N7] at C;obtain⟨rfl,rfl,rfl⟩:=C;rcases u with u | ⟨ae,off',arr,U,B,N,Q,S,G⟩
     .omega
     .subst B;have ea:I=some ⟨ae,off'+off * P.cellsOf e,none⟩:=by
       rcases e4 with⟨rfl,rfl⟩ | ⟨rfl,_⟩ | ⟨b,o,e5,e6⟩
       .simp
       .omega
       .simp only [M1,NZ] at e5;obtain⟨rfl,rfl,_⟩:=e5;exact e6
      subst ea;refine⟨_,_,h,g _ _ _ _ h0 f, ?_⟩;simp only [ai];exact⟨ae,off',_,_,g1,by congr 3;rw [OR];omega⟩
    .simp at h
   .simp at h
  .rename_i y;replace h:=aM h q;obtain⟨p,hp,h⟩:=h;obtain⟨h0,f,h⟩:=mw q h;replace h:=aM h q;obtain⟨cs,E,h⟩:=h;rcases T.nY hp with rfl | ⟨rfl,X⟩
   .simp only [ai,ay] at d;rcases d with⟨_,e,_⟩ | ⟨_,ae,off,sp,cap,rfl,g1,l,W⟩
    .rw [e] at f;simp at f;omega
    .rcases l with l | ⟨rfl,l⟩
     .rw [l] at E;simp at E
     refine⟨_,_,h,g _ _ _ _ h0 f, ?_⟩;obtain⟨g4,H⟩:=W.get E;simp only [ai,ay];exact⟨ae,_,rfl, .inr l,H⟩
   .rw [X] at f;simp at f;omega
  .simp at h
 .split at h
  .rename_i n e J;obtain⟨M,F⟩:=yU J;obtain⟨h0,f,h⟩:=mw q h;have g:∀b o,(Instr.indexAt t (.pointer (some ⟨b,o,none⟩)) (.int ki i)).run P w= .ok (.pointer (some ⟨b,o+i.toNat * P.cellsOf e,none⟩)) w:=by
    intro b o;simp [Instr.indexAt,asIntOf,run_underlying M,Instr.sureAddr,h0,f,gW F,fK]
   split at h
   .rename_i j off;simp only [ai] at d;obtain⟨b,z,rfl⟩:=d;exact⟨_,_,h,g _ _,by simp only [ai];exact⟨b,z,rfl⟩⟩
   .rename_i j sz k off;simp only [ai] at d;obtain⟨b,o',L,cap,z,rfl⟩:=d;exact⟨_,_,h,g _ _,by simp only [ai];exact⟨b,o',L,cap,z,by rw [O7]⟩⟩
   .rename_i y;replace h:=aM h q;obtain⟨cs,E,h⟩:=h;have:=T.tV E;subst this;simp only [ai,ay] at d;obtain⟨ae,o,rfl,g1,l⟩:=d;refine⟨_,_,h,g _ _, ?_⟩;simp only [ai,ay];refine⟨ae,_,rfl, ?_,l.drop _⟩;rcases g1 with rfl | g1
    .exact .inl (by simp)
    .exact .inr g1
   .simp at h
  .simp at h
end
open Go Go.IntKind
section
variable {P:Program} {w w':World} {A A':Nat->Prop} {c:Ctx} {ρ:Id->Option Value} {O:Id->Option Nat} {s:St} {cc:Option Bool}
theorem It{R:Type}{t ty:TypeId}{ts:Array TypeId}{x:AV}{B:Value}{K:AV->Option R}{r:R}(hs:HS c w s.h ρ O)(d:ai w (AA c w O) ρ x B)(l:cc=none\/cc=some true)(h:lC P s cc t x K=some r)
  (g:ts[0]? =some t):∃u v,K u=some r/\(Builtin.len_ ts ty #[B]).run P w= .ok v w/\ai w (AA c w O) ρ u v:=by
 unfold lC at h;split at h
 .rename_i i;split at h
  .rename_i y;replace h:=aM h l;obtain⟨b,C,h⟩:=h;have:=T.iY C;subst this;simp only [ai,ay] at d;subst d;exact⟨_,_,h,by simp [Builtin.len_,g,run_underlying i];rfl,by simp only [ai];exact fv _ _ _ _⟩
  .simp at h
 .rename_i n e i;exact⟨_,_,h,by simp [Builtin.len_,g,run_underlying i];rfl,by simp only [ai];exact fv _ _ _ _⟩
 .rename_i e i;have f:∀a n cap,(Builtin.len_ ts ty #[.slice a n cap]).run P w= .ok (goInt n) w:=by
   intro a n cap;simp [Builtin.len_,g,run_underlying i]
  split at h
  .rename_i j;split at h
   .rename_i fz sz bb xs m;obtain⟨v,k,q,cap',o,M,N,Q,S⟩:=oo hs m;simp only [ai] at d;rw [k] at d;simp only [M1] at d;subst d;subst o;exact⟨_,_,h,f _ _ _,by simp only [ai];exact fv _ _ _ _⟩
   .rename_i bb sz col rsz J es m;obtain⟨a,cap,k,_⟩:=hs.ae j _ m;simp only [ai] at d;rw [k] at d;simp only [M1] at d;subst d;exact⟨_,_,h,f _ _ _,by simp only [ai];exact fv _ _ _ _⟩
   .simp at h
  .rename_i j n;replace h:=xQ hs l h;obtain⟨rsz,bb,xs,v,h,E,q,cap',o,_⟩:=h;simp only [ai] at d;rw [E] at d;simp only [M1] at d;subst d;subst o;exact⟨_,_,h,f _ _ _,by simp only [ai];exact fv _ _ _ _⟩
  .rename_i j sz off n;simp only [ai] at d;obtain⟨a,L,cap,q,F,G,e3,rfl,e4⟩:=d;exact⟨_,_,h,f _ _ _,by simp only [ai];exact fv _ _ _ _⟩
  .rename_i y;replace h:=aM h l;obtain⟨p,D,h⟩:=h;rcases T.nY D with rfl | ⟨rfl,z⟩
   .simp only [ai,ay] at d;rcases d with⟨_,e,rfl⟩ | ⟨_,ae,off,sp,cap,rfl,k,H,I⟩
    .refine⟨_,_,h,f _ _ _, ?_⟩;simp only [ai,e];exact fv _ _ _ _
    .exact⟨_,_,h,f _ _ _,by simp only [ai];exact fv _ _ _ _⟩
   .simp only [ai,ay] at d;rw [z] at h;rcases d with⟨_,rfl⟩ | ⟨_,ae,off,sp,rfl⟩ <;> exact⟨_,_,h,f _ _ _,by simp only [ai];exact fv _ _ _ _⟩
  .simp at h
 .simp at h
theorem uV{x:T}{n:Int}(h:gM.anyInt x=some n):∃k,x= .int k n:=by cases x <;> simp_all [gM.anyInt]
def hU(b:Option Int)(v:Option Value):Prop:=match b,v with
 | none,none=>True
 | some n,some (.int _ m)=>m=n
 | _,_=>False
theorem ve{R:Type}{a:Act}{g:Option Gs}{o:Option Operand}{K:Option Int->Option R}{r:R}(j:SS w A ρ s.t a.tmps)(i:jc a.tmps g)(e:cc=none\/cc=some true)(h:gM s cc g o K=some r):
  ∃b,K b=some r/\hU b (o.map a.eval):=by
 unfold gM at h;split at h
 .exact⟨none,h,trivial⟩
 .rename_i o;cases d:(s.get g o).t? with
  | none=>simp [d] at h
  | some x=>simp only [d,M6] at h;replace h:=aM h e;obtain⟨n,f,h⟩:=h;obtain⟨k,rfl⟩:=uV f;have:=SS.get (h:=s.h) j i o;rw [show(⟨s.t,s.h⟩:St)=s from rfl,AV.jV d] at this;simp only [ai,ay] at this;exact⟨some n,h,by simp [hU,this]⟩
theorem tu{b a n:Int}(h:eZ b a n=some ()): 0<=b/\b<=a/\a<=n:=by
 unfold eZ at h;split at h
 .assumption
 .simp at h
theorem r8{v:Option Value}(h:hU none v):v=none:=by cases v <;> simp_all [hU]
theorem oB{n:Int}{v:Option Value}(h:hU (some n) v):∃k,v=some (.int k n):=by
 cases v with
 | none=>simp [hU] at h
 | some v=>cases v <;> simp_all [hU]
theorem pQ(k:IntKind)(n:Int)(y:Nat)(a:BoundsCode)(h0: 0<=n)(b:n<=y):(Instr.sliceBound (.int k n) y a).run P w= .ok n.toNat w:=run_sliceBound w k n y a h0 b
theorem DM(p:Bool){b f:Option Int}{j i:Option Value}{len cap:Nat}(hl:hU b j)(o:hU f i)(g: 0<=b.getD 0)(d:b.getD 0<=f.getD len)(l:f.getD len<=cap):
  (Instr.sliceBounds p len cap j i none).run P w= .ok ((b.getD 0).toNat,(f.getD len).toNat,cap) w:=by
 cases f with
 | none=>
  have:=r8 o;subst this;simp only [P1] at d l⊢;cases b with
  | none=>have:=r8 hl;subst this;simp [Instr.sliceBounds]
  | some n=>obtain⟨k,rfl⟩:=oB hl;simp only [OM] at g d⊢;have e:=pQ (P:=P) (w:=w) k n len .sliceB g d;simp [Instr.sliceBounds,e]
 | some m=>
  obtain⟨q,rfl⟩:=oB o;simp only [OM] at d l⊢;have e':∀a,(Instr.sliceBound (.int q m) cap a).run P w= .ok m.toNat w:=λa=>pQ q m cap a (by omega) l;cases b with
  | none=>have:=r8 hl;subst this;simp [Instr.sliceBounds,e']
  | some n=>obtain⟨k,rfl⟩:=oB hl;simp only [OM] at g d⊢;have e:=pQ (P:=P) (w:=w) k n m.toNat .sliceB g (by omega);simp [Instr.sliceBounds,e,e']
theorem L9{R:Type}{t:TypeId}{x:AV}{vx:Value}{g C mx:Option Int}{V U F:Option Value}{K:AV->Option R}{r:R}(hs:HS c w s.h ρ O)(q:ai w (AA c w O) ρ x vx)(M:cc=none\/cc=some true)
  (hl:hU g V) (hh:hU C U) (hm:hU mx F) (h:lS P s cc t x g C mx K=some r):
  ∃av v,K av=some r/\(Instr.sliceAt t vx V U F).run P w= .ok v w/\ai w (AA c w O) ρ av v:=by
 unfold lS at h;split at h
 .rename_i hu;split at h
  .rename_i y;replace h:=aM h M;obtain⟨b,J,h⟩:=h;have:=T.iY J;subst this;simp only [ai,ay] at q;subst q;replace h:=aM h M;obtain⟨_,J,h⟩:=h;obtain⟨D,l,B⟩:=tu J;have hvm:F=none:=by cases F with | none=>rfl | some v=>simp [hU] at hm
   subst hvm;refine⟨_,_,h, ?_,by simp only [ai];exact jO _ _ _⟩;have:=DM (P:=P) (w:=w) false (len:=b.size) (cap:=b.size) hl hh D l B;simp [Instr.sliceAt,Instr.slice,run_underlying hu,this]
  .simp at h
 .rename_i e hu;split at h
  .have hvm:F=none:=by cases F with | none=>rfl | some v=>simp [hU] at hm
   subst hvm
   have z:bW P e=true->∀(a:Option Addr) (len cap:Nat),0<=g.getD 0->g.getD 0<=C.getD len->C.getD len<=cap->
     (Instr.sliceAt t (.slice a len cap) V U none).run P w= .ok (.slice (if cap= (g.getD 0).toNat then a else a.map (·.add ((g.getD 0).toNat * P.cellsOf e))) ((C.getD len).toNat - (g.getD 0).toNat) (cap - (g.getD 0).toNat)) w:=by
    intro f a len cap D l B;have:=DM (P:=P) (w:=w) true hl hh D l B;simp [Instr.sliceAt,Instr.slice,run_underlying hu,this,gW f]
   split at h
   .rename_i j;split at h
    .rename_i fz sz bb xs hj;split at h
     .rename_i Q;obtain⟨Q,f⟩:=Q;subst Q;replace h:=aM h M;obtain⟨_,J,h⟩:=h;obtain⟨D,l,B⟩:=tu J;obtain⟨v,H,G,cap',W,q2,q3,q4,X⟩:=oo hs hj;simp only [ai] at q;rw [H] at q;simp only [M1] at q;subst q;subst W;refine⟨_,_,h,z f _ _ _ D l (by omega), ?_⟩;simp only [ai];refine⟨G,_,cap',_,H,by omega,q2,rfl, ?_⟩;by_cases e0:(g.getD 0).toNat=0
      .left;refine⟨e0, ?_⟩;rw [e0];split
       .rfl
       .cases G <;> simp [Addr.add]
      .by_cases i:cap'= (g.getD 0).toNat
       .right;left;rw [if_pos i];exact⟨i.symm,Pm,q4⟩
       .right;right;rw [if_neg i];rcases X with X | ⟨ae,off',arr,t',q6,_⟩
        .omega
        .subst q6;exact⟨ae,off',rfl,by simp [fK]⟩
     .simp at h
    .simp at h
   .rename_i j sz off n;split at h
    .rename_i fz sz' bb xs hj;split at h
     .rename_i Q;obtain⟨rfl,rfl,f⟩:=Q;replace h:=aM h M;obtain⟨_,J,h⟩:=h;obtain⟨D,l,B⟩:=tu J;simp only [ai] at q;obtain⟨a,L,cap,G,i,e2,e3,rfl,e4⟩:=q;obtain⟨v,H,a'',cap'',W,q2,q3,q4,X⟩:=oo hs hj;rw [H] at i;simp only [M1] at i;subst i;simp only [N7] at W;obtain⟨rfl,rfl,rfl⟩:=W;refine⟨_,_,h,z f _ _ _ D l (by omega), ?_⟩;simp only [ai];refine⟨a,_,cap,_,H,by omega,e3,by congr 1;omega, ?_⟩;by_cases e0:(g.getD 0).toNat=0
      .have:(if cap - off= (g.getD 0).toNat then G else G.map (·.add ((g.getD 0).toNat * P.cellsOf e)))=G:=by
        rw [e0];split
        .rfl
        .cases G <;> simp [Addr.add]
       rw [this,e0,Pa];exact e4
      .by_cases e5:cap - off= (g.getD 0).toNat
       .right;left;rw [if_pos e5];refine⟨by omega, ?_, ?_⟩
        .rcases e4 with⟨_,rfl⟩ | ⟨_,E,_⟩ | ⟨b,o,rfl,rfl⟩
         .exact Pm
         .exact E
         .simp
        .trivial
       .right;right;rw [if_neg e5];rcases X with X | ⟨ae,off',arr,t',q6,_⟩
        .omega
        .subst q6;rcases e4 with⟨e7,rfl⟩ | ⟨e7,_⟩ | ⟨b,o,E,rfl⟩
         .subst e7;exact⟨ae,off',rfl,by simp [fK]⟩
         .omega
         .exact⟨b,o,E,by simp [fK,OR,O7]⟩
     .simp at h
    .simp at h
   .rename_i y;split at h
    .rename_i f;replace h:=aM h M;obtain⟨p,hp,h⟩:=h;replace h:=aM h M;obtain⟨_,J,h⟩:=h;obtain⟨D,l,B⟩:=tu J;rcases T.nY hp with rfl | ⟨rfl,hp2⟩
     .simp only [ai,ay] at q;rcases q with⟨i,e,rfl⟩ | ⟨i,ae,off,sp,cap,rfl,H,I,g3⟩
      .rw [e] at l B h;refine⟨_,_,h,z f _ _ _ (by simpa using D) (by simpa using l) (by simpa using B), ?_⟩;simp only [Nw,NK] at l B;have e5:(g.getD 0).toNat=0:=by omega
       have E:(C.getD ((0:Nat):Int)).toNat=0:=by
        have:C.getD ((0:Nat):Int)=C.getD 0:=by simp
        rw [this];omega
       simp only [ai,ay,sub,List.drop_nil,List.take_nil];left;refine⟨i,trivial, ?_⟩;rw [E];simp
      .refine⟨_,_,h,z f _ _ _ D l (by omega), ?_⟩;simp only [ai,ay];right;refine⟨i, ?_⟩;by_cases e5:cap= (g.getD 0).toNat
       .rw [if_pos e5];have E:(C.getD ((p.2.length:Nat):Int)).toNat - (g.getD 0).toNat=0:=by omega
        refine⟨ae,off,sp,cap - (g.getD 0).toNat, ?_, ?_, .inl ?_, ?_⟩
        .simp only [sub,E,Qa,Nw]
        .simp only [sub,E,Qa,Nw];omega
        .simp [sub,E]
        .simp [sub,E,bd]
       .rw [if_neg e5];have N:(sub (g.getD 0) (C.getD ((p.2.length:Nat):Int)) p.2).length= (C.getD ((p.2.length:Nat):Int)).toNat - (g.getD 0).toNat:=by
         simp only [sub,N2,Oj];omega
        rcases I with I | ⟨I,g4⟩
        .have e7:(g.getD 0).toNat=0:=by rw [I] at B;simp only [Nw] at B;rw [I] at l;simp only [Nw] at l;omega
         refine⟨ae,off,sp,cap - (g.getD 0).toNat, ?_, ?_, .inl (by simp [sub,I]),by simp [sub,I,bd]⟩
         .rw [N,e7];simp [Addr.add]
         .rw [N];omega
        .subst I;refine⟨ae,off+ (g.getD 0).toNat * P.cellsOf e,none,cap - (g.getD 0).toNat, ?_, ?_, .inr ⟨rfl,g4⟩, ?_⟩
         .rw [N];simp only [OI,fK]
         .rw [N];omega
         .exact(g3.drop _).take _
     .rw [hp2] at l B h;simp only [ai,ay] at q;simp only [Nw,NK] at l B;have e5:(g.getD 0).toNat=0:=by omega
      have E:(C.getD ((0:Nat):Int)).toNat=0:=by
       have:C.getD ((0:Nat):Int)=C.getD 0:=by simp
       rw [this];omega
      rcases q with⟨i,rfl⟩ | ⟨i,ae,off,sp,rfl⟩
      .refine⟨_,_,h,z f _ _ _ (by simpa using D) (by simpa using l) (by simpa using B), ?_⟩;simp only [ai,ay,sub,List.drop_nil,List.take_nil];left;refine⟨i,trivial, ?_⟩;rw [E];simp
      .refine⟨_,_,h,z f _ _ _ (by simpa using D) (by simpa using l) (by simpa using B), ?_⟩;simp only [ai,ay,sub,List.drop_nil,List.take_nil,bd];right;refine⟨i,ae,off,sp,0, ?_,by simp, .inl trivial,trivial⟩;rw [e5,E];simp
    .simp at h
   .simp at h
  .rename_i m;obtain⟨km,rfl⟩:=oB hm
   have z:bW P e=true->g.getD 0=0->C.getD 1=0->m=0->∀(a:Option Addr) (len cap:Nat),
     (Instr.sliceAt t (.slice a len cap) V U (some (.int km m))).run P w= .ok (.slice a 0 0) w:=by
    intro f D l B a len cap;cases C with
    | none=>simp at l
    | some hn=>
     obtain⟨kh,rfl⟩:=oB hh;simp only [OM] at l;subst l;subst B;have i:∀k,(Instr.sliceBound (.int km 0) cap k).run P w= .ok 0 w:=λk=>pQ km 0 cap k (by omega) (by omega);have e2:∀k,(Instr.sliceBound (.int kh 0) 0 k).run P w= .ok 0 w:=λk=>pQ kh 0 0 k (by omega) (by omega);cases g with
     | none=>have:=r8 hl;subst this;simp [Instr.sliceAt,Instr.slice,run_underlying hu,Instr.sliceBounds,i,e2,gW f]
     | some ln=>obtain⟨kl,rfl⟩:=oB hl;simp only [OM] at D;subst D;have e3:∀k,(Instr.sliceBound (.int kl 0) 0 k).run P w= .ok 0 w:=λk=>pQ kl 0 0 k (by omega) (by omega);simp [Instr.sliceAt,Instr.slice,run_underlying hu,Instr.sliceBounds,i,e2,e3,gW f]
   have zs:∀{a b d:Int} {u:Unit},uM a b d=some u->a=0/\b=0/\d=0:=by
    intro a b d u S;unfold uM at S;split at S
    .assumption
    .simp at S
   split at h
   .rename_i y;split at h
    .rename_i f;replace h:=aM h M;obtain⟨p,hp,h⟩:=h;replace h:=aM h M;obtain⟨_,S,h⟩:=h;obtain⟨Y,Z,z3⟩:=zs S;rcases T.nY hp with rfl | ⟨rfl,hp2⟩
     .simp only [ai,ay] at q;rcases q with⟨i,e,rfl⟩ | ⟨i,ae,off,sp,cap,rfl,H,I,g3⟩
      .exact⟨_,_,h,z f Y Z z3 _ _ _,by simp only [ai,ay];exact .inl ⟨i,trivial⟩⟩
      .exact⟨_,_,h,z f Y Z z3 _ _ _,by simp only [ai,ay];exact .inr ⟨i,ae,off,sp,rfl⟩⟩
     .simp only [ai,ay] at q;rcases q with⟨i,rfl⟩ | ⟨i,ae,off,sp,rfl⟩
      .exact⟨_,_,h,z f Y Z z3 _ _ _,by simp only [ai,ay];exact .inl ⟨i,trivial⟩⟩
      .exact⟨_,_,h,z f Y Z z3 _ _ _,by simp only [ai,ay];exact .inr ⟨i,ae,off,sp,rfl⟩⟩
    .simp at h
   .rename_i j;split at h
    .rename_i fz sz bb xs hj;split at h
     .simp at h
     .rename_i f;simp only [Bool.not_eq_false] at f;replace h:=aM h M;obtain⟨_,S,h⟩:=h;obtain⟨Y,Z,z3⟩:=zs S;obtain⟨v,H,G,cap',W,q2,q3,q4,X⟩:=oo hs hj;simp only [ai] at q;rw [H] at q;simp only [M1] at q;subst q;subst W;refine⟨_,_,h,z f Y Z z3 _ _ _, ?_⟩;simp only [ai,ay];cases bb
      .right;cases G with
       | none=>simp at q3
       | some x=>obtain⟨b,o,sp⟩:=x;exact⟨rfl,b,o,sp,rfl⟩
      .left;exact⟨rfl,by rw [q3.2 rfl]⟩
    .simp at h
   .simp at h
 .simp at h
end
open Go Go.IntKind
section
variable {P:Program} {w w':World} {A A':Nat->Prop} {c:Ctx} {ρ:Id->Option Value} {O:Id->Option Nat} {s:St} {cc:Option Bool} {h:Id->Option ab}
def pH(v:AV)(i:Id):Prop:=v= .own i\/(∃sz off n,v= .part i sz off n)\/∃off,v= .ref i off
theorem lR{i:Id}{fz b:Bool}{sz:Nat}{l:List (List T)}(hs:HS c w h ρ O)(e:h i=some (.sl fz sz b l)):∃v,ρ i=some v/\cF w (AA c w O) sz b l v (λae=>if fz=true then AA c w O ae else O i=some ae):=by obtain⟨v,a,d,_⟩:=hs.ae i _ e;exact⟨v,a,d⟩
theorem kJ{v:AV}{x:T}{u:Value}(hs:HS c w h ρ O)(e:ai w (AA c w O) ρ v u)(d:dm h v=some x)
  (m:∀b,AA c w O b->A' b) (R:∀i ae,pH v i->O i=some ae->A' ae):ay w A' x u:=by
 have mono:∀(t:T) (v:Value),ay w (AA c w O) t v->ay w A' t v:=λt v hr=>ay.mono (λb p=>⟨m b p,rfl⟩) t v hr;cases v <;> simp only [dm,reduceCtorEq,M1] at d
 case t y=>subst d;simp only [ai] at e;exact mono _ _ e
 case own i=>
  split at d
  .rename_i fz sz b xs q;simp only [M1] at d;subst d;obtain⟨v',M,a,cap,G,V,D,q4,f⟩:=lR hs q;simp only [ai] at e;rw [M] at e;simp only [M1] at e;subst e;subst G;simp only [ay];cases b with
   | true=>
    left;have:a=none:=D.2 rfl;subst this;rcases f with f | ⟨ae,off,arr,t,z,_⟩
    .have:xs= []:=Ny.1 (by omega);subst this;subst f;exact⟨rfl,rfl,rfl⟩
    .cases z
   | false=>
    right;refine⟨rfl, ?_⟩;rcases f with f | ⟨ae,off,arr,t,z,E,q8,q9,C⟩
    .have:xs= []:=Ny.1 (by omega);subst this;cases a with
     | none=>simp at D
     | some y=>obtain⟨J,o,sp⟩:=y;exact⟨J,o,sp,cap,rfl,V, .inl rfl,by simp [bd]⟩
    .subst z;refine⟨ae,off,_,cap,rfl,V, .inr ⟨rfl, ?_⟩,bd.lE (λb p=>⟨m b p,rfl⟩) ae sz rfl off xs C⟩;cases fz
     .exact R i ae (.inl rfl) (by simpa using E)
     .exact m _ (by simpa using E)
  .simp at d
 case part i sz off n=>
  split at d
  .rename_i fz H b xs q;split at d
   .rename_i Y;subst Y;simp only [M1] at d;subst d;obtain⟨v',M,a,cap,G,V,D,q4,f⟩:=lR hs q;simp only [ai] at e;obtain⟨W,L,Z,I,g,e2,e3,rfl,e4⟩:=e;rw [M] at g;simp only [M1] at g;subst g;simp only [N7] at G;obtain⟨rfl,rfl,rfl⟩:=G;have U:((xs.drop off).take n).length=n:=by simp only [N2,Oj];omega
    simp only [ay,U];have k:I=none↔W=none:=by
     rcases e4 with⟨_,rfl⟩ | ⟨_,e5,_⟩ | ⟨X,o,rfl,rfl⟩
     .exact Pm
     .exact e5
     .simp
    cases b with
    | true=>
     left;have e5:W=none:=D.2 rfl;subst e5;rcases f with f | ⟨ae,off',arr,t,z,_⟩
     .have K:xs= []:=Ny.1 (by omega);subst K;subst f;simp only [Nw] at e2;have e7:n=0:=by omega
      subst e7;rw [k.2 rfl];exact⟨rfl,by simp,by congr 1;omega⟩
     .cases z
    | false=>
     right;refine⟨rfl, ?_⟩;by_cases hn:n=0
     .subst hn;cases I with
      | none=>have:=k.1 rfl;simp [this] at D
      | some y=>obtain⟨J,o,sp⟩:=y;exact⟨J,o,sp,_,rfl,by omega, .inl (by simp),by simp [bd]⟩
     .rcases f with f | ⟨ae,off',arr,t,z,E,q8,q9,C⟩
      .omega
      .subst z;have ea:I=some ⟨ae,off'+off * H,none⟩:=by
        rcases e4 with⟨rfl,rfl⟩ | ⟨rfl,_⟩ | ⟨X,o,e5,K⟩
        .simp
        .omega
        .simp only [M1,NZ] at e5;obtain⟨rfl,rfl,_⟩:=e5;exact K
       subst ea;refine⟨ae,_,_,_,rfl,by omega, .inr ⟨rfl, ?_⟩,(bd.lE (λb p=>⟨m b p,rfl⟩) ae H rfl off' xs C).drop off |>.take n⟩;cases fz
       .exact R i ae (.inr (.inl ⟨_,_,_,rfl⟩)) (by simpa using E)
       .exact m _ (by simpa using E)
   .simp at d
  .simp at d
 case ref i off=>
  simp only [ai] at e;obtain⟨X,g,rfl⟩:=e;split at d
  .rename_i cs q;obtain⟨l,hl,d⟩:=M2.1 d;simp only [M1] at d;subst d;obtain⟨b,arr,t',B,F,N,Q,h5,h6⟩:=vf (s:=⟨λ_=>(none, .top),h⟩) hs q;rw [B] at g;simp only [M1,OB,NZ] at g;obtain⟨rfl,_⟩:=g;simp only [ay];refine⟨b,off,rfl, .inr (R i b (.inr (.inr ⟨_,rfl⟩)) F), ?_⟩;have hT:=aR.jo hl Q;have key:∀(l:List T) (vs:List Value) (off:Nat),aR w (AA c w O) l vs->(∀j v,vs[j]? =some v->w.cell? ⟨b,off+j,none⟩=some v)->aZ w A' b off l:=by
    intro l;induction l with
    | nil=>intro vs off _ _;simp [aZ]
    | cons x l ih=>rintro vs off ⟨v,r,rfl,B,F⟩ e;simp only [aZ];refine⟨⟨v,by simpa using e 0 v rfl,mono _ _ B⟩,ih r (off+1) F λj u S=> ?_⟩;have:=e (j+1) u (by simpa using S);rw [show off+1+j=off+ (j+1) by omega];exact this
   have:=(key l _ 0 hT λj v S=>by rw [NF];exact h6 j v S).drop off;rwa [NF] at this
  .rename_i l q;simp only [M1] at d;subst d;obtain⟨b,B,F,N,Q⟩:=hs.ae i _ q;rw [B] at g;simp only [M1,OB,NZ] at g;obtain⟨rfl,_⟩:=g;simp only [ay];refine⟨b,off,rfl, .inr (m b N), ?_⟩;have:=(aZ.mono (λb p=>⟨m b p,rfl⟩) b N 0 l Q).drop off;rwa [NF] at this
  .simp at d
def Dn(v:AV)(i:Id):Prop:=pH v i\/∃vs,v= .agg vs/\∃u∈vs,pH u i
theorem D6(hs:HS c w h ρ O)(j:∀b,AA c w O b->A' b):∀{vs:List AV} {xs:List T} {us:List Value},az w (AA c w O) ρ vs us->jv h vs=some xs->
  (∀i ae,(∃u∈vs,pH u i)->O i=some ae->A' ae)->aR w A' xs us
 | [],xs,us,e,a,_=>by simp only [jv,M1] at a;subst a;simpa [az,aR] using e
 | v::vs,xs,us,e,a,k=>by
  simp only [jv] at a;cases d:dm h v with
  | none=>simp [d] at a
  | some x=>
   cases f:jv h vs with
   | none=>simp [d,f] at a
   | some l=>simp only [d,f,M6,M1] at a;subst a;simp only [az] at e;obtain⟨u,r,rfl,m,n⟩:=e;exact⟨u,r,rfl,kJ hs m d j (λi ae g=>k i ae ⟨v,M3,g⟩),D6 hs j n f (λi ae ⟨u,o,g⟩=>k i ae ⟨u,M4 _ o,g⟩)⟩
theorem Mc{v:AV}{x:T}{u:Value}(hs:HS c w h ρ O)(b:ai w (AA c w O) ρ v u)(a:dm h v=some x):u.oneCell'=true/\u.cells= #[u]:=
 (kJ (A':=λ_=>True) hs b a (λ_ _=>trivial) (λ_ _ _ _=>trivial)).n8
theorem Md{v:AV}{xs:List T}{u:Value}(hs:HS c w h ρ O)(d:ai w (AA c w O) ρ v u)(a:ju h v=some xs)(k:∀b,AA c w O b->A' b)
  (l:∀i ae,Dn v i->O i=some ae->A' ae):aR w A' xs u.cells.toList/\∀y∈u.cells.toList,y.oneCell'=true/\y.cells= #[y]:=by
 have one:∀x,dm h v=some x->xs= [x]->aR w A' xs u.cells.toList/\∀y∈u.cells.toList,y.oneCell'=true/\y.cells= #[y]:=by intro x e f;subst f;have p:=kJ hs d e k (λi ae g=>l i ae (.inl g));have j:=Mc hs d e;rw [j.2];exact⟨⟨u,[],rfl,p,rfl⟩,by intro y m;simp at m;subst m;exact j⟩
 cases v
 case agg vs=>simp only [ju] at a;simp only [ai] at d;obtain⟨q,rfl,n,o⟩:=d;refine⟨?_,by simpa [Value.cells] using o⟩;have:=D6 hs k n a (λi ae g=>l i ae (.inr ⟨vs,rfl,g⟩));simpa [Value.cells] using this
 all_goals
  unfold ju at a;obtain⟨x,e,f⟩:=M2.1 a;exact one x e (Option.some.inj f).symm
def ov(p:Id×ab)(x:Option ab):Prop:=(∃sz b xs,p.2= .sl true sz b xs/\(x=some (.sl false sz b xs)\/x=some (.sl true sz b xs)))\/
 ∃l,p.2= .eI l/\((∃cs,x=some (.box cs)/\dK cs=some l)\/x=some (.eI l))
def fA(h:Id->Option ab)(us:aE):Prop:= ∀p∈us,ov p (h p.1)
theorem ov.again{i:Id}{b j:ab}{x:Option ab}(p:ov (i,b) x)(n:ov (i,j) x):j=b/\ov (i,j) (some b):=by
 rcases p with⟨sz,bb,xs,d,g1⟩ | ⟨l,d,g1⟩
 .rcases n with⟨f,e,g,a,g2⟩ | ⟨o,a,g2⟩
  .simp only at d a;have:f=sz/\e=bb/\g=xs:=by
    rcases g1 with rfl | rfl <;> rcases g2 with g2 | g2 <;> simp at g2 <;> simp [g2]
   obtain⟨rfl,rfl,rfl⟩:=this;exact⟨by rw [d,a], .inl ⟨_,_,_,a, .inr (by rw [d])⟩⟩
  .rcases g1 with rfl | rfl <;> rcases g2 with⟨cs,g2,_⟩ | g2 <;> simp at g2
 .rcases n with⟨f,e,g,a,g2⟩ | ⟨o,a,g2⟩
  .rcases g2 with rfl | rfl <;> rcases g1 with⟨cs,g1,_⟩ | g1 <;> simp at g1
  .simp only at d a;have:o=l:=by
    rcases g1 with⟨cs,rfl,g1⟩ | rfl
    .rcases g2 with⟨m,g2,k⟩ | g2
     .simp only [M1,ab.box.injEq] at g2;subst g2;rw [g1] at k;simpa using k.symm
     .simp at g2
    .rcases g2 with⟨m,g2,k⟩ | g2
     .simp at g2
     .simpa using g2.symm
   subst this;exact⟨by rw [d,a], .inr ⟨_,a, .inr (by rw [d])⟩⟩
theorem HS.shut(hs:HS c w h ρ O){i:Id}{b:ab}(m:ov (i,b) (h i)):
  ∃a,Le w ρ O w ρ a/\HS c w (aH h i (some b)) ρ a/\(∀j,a j=O j\/a j=none)/\a i=none/\∀j,j≠i->a j=O j:=by
 have k:∀(f:Id->Option ab) (v:Option ab),f i=v->aH f i v=f:=by
  intro f v h;funext j;unfold aH;split
  .rename_i e;rw [e,h]
  .rfl
 have rel:∀{x:Option ab},HS c w (aH h i x) ρ (aH O i none)->∃a,Le w ρ O w ρ a/\HS c w (aH h i x) ρ a/\(∀j,a j=O j\/a j=none)/\a i=none/\∀j,j≠i->a j=O j:=by
  intro x p;exact⟨_,Le.release,p,λj=>by
   by_cases e:j=i
   .subst e;right;simp
   .left;exact aq _ _ e,by simp,λj e=>aq _ _ e⟩
 have same:h i=some b->O i=none->∃a,Le w ρ O w ρ a/\HS c w (aH h i (some b)) ρ a/\(∀j,a j=O j\/a j=none)/\a i=none/\∀j,j≠i->a j=O j:=by intro n o;exact⟨O,Le.refl,by rw [k _ _ n];exact hs,λj=> .inl rfl,o,λ_ _=>rfl⟩
 rcases m with⟨sz,bb,xs,e,d⟩ | ⟨l,e,d⟩
 .simp only at e;subst e;rcases d with d | d
  .exact rel (hs.freeze d)
  .obtain⟨_,_,_,g⟩:=hs.ae i _ d;exact same d (g rfl)
 .simp only at e;subst e;rcases d with⟨cs,d,hl⟩ | d
  .exact rel (hs.HV d hl)
  .obtain⟨_,_,g,_⟩:=hs.ae i _ d;exact same d g
theorem qJ(v:AV):fA h (fN h v):=by
 intro p a;unfold fN at a;split at a
 .split at a
  .rename_i i sz b xs d;simp only [Ng] at a;subst a;exact .inl ⟨sz,b,xs,rfl, .inl d⟩
  .cases a
 .split at a
  .rename_i i _ _ _ sz b xs d;simp only [Ng] at a;subst a;exact .inl ⟨sz,b,xs,rfl, .inl d⟩
  .cases a
 .split at a
  .rename_i i _ cs d;split at a
   .rename_i l hl;simp only [Ng] at a;subst a;exact .inr ⟨l,rfl, .inl ⟨cs,d,hl⟩⟩
   .cases a
  .cases a
 .cases a
theorem fA.append{us vs:aE}(b:fA h us)(d:fA h vs):fA h (us++vs):=by
 intro p a;rcases Nq.1 a with a | a
 .exact b p a
 .exact d p a
theorem wv:∀(vs:List AV),fA h (kv h vs)
 | []=>by intro p a;cases a
 | v::vs=>(qJ v).append (wv vs)
theorem wA(v:AV):fA h (fH h v):=by
 unfold fH;split
 .exact wv _
 .exact qJ v
theorem HS.Bn:∀{us:aE} {h:Id->Option ab} {O:Id->Option Nat},HS c w h ρ O->fA h us->
  ∃O',Le w ρ O w ρ O'/\HS c w (aJ h us) ρ O'/\(∀i,O' i=O i\/O' i=none)/\(∀p∈us,O' p.1=none)/\∀i,(∀p∈us,p.1≠i)->O' i=O i
 | [],h,O,hs,_=>⟨O,Le.refl,hs,λi=> .inl rfl,by simp,λ_ _=>rfl⟩
 | (i,b)::us,h,O,hs,d=>by
  have k:=d (i,b) M3;obtain⟨C,o,q,r,t,u⟩:=hs.shut k;have g:fA (aH h i (some b)) us:=by
   intro p a;have f:=d p (M4 _ a);by_cases e:p.1=i
   .obtain⟨j,x⟩:=p;simp only at e f;subst e;rw [aC];exact(k.again f).2
   .rw [aq _ _ e];exact f
  obtain⟨n,v,y,m,z,B⟩:=HS.Bn q g;refine⟨n,o.trans v,y,λj=> ?_,λp a=> ?_,λj l=> ?_⟩
  .rcases m j with e | e
   .rw [e];exact r j
   .exact .inr e
  .rcases Nj.1 a with rfl | a
   .rcases m i with e | e
    .rw [e];exact t
    .exact e
   .exact z p a
  .rw [B j (λp a=>l p (M4 _ a)),u j (λe=>l (i,b) M3 e.symm)]
theorem tg(hs:HS c w h ρ O){v:AV}{x:T}(a:dm h v=some x){i:Id}{ae:Nat}(d:pH v i)(ho:O i=some ae):∃p∈fN h v,p.1=i:=by
 rcases d with rfl | ⟨sz,off,n,rfl⟩ | ⟨off,rfl⟩
 .simp only [dm] at a;split at a
  .rename_i fz sz b xs d;cases fz
   .exact⟨(i, .sl true sz b xs),by simp [fN,d],rfl⟩
   .obtain⟨_,_,_,e⟩:=hs.ae i _ d;rw [e rfl] at ho;cases ho
  .simp at a
 .simp only [dm] at a;split at a
  .rename_i fz f b xs d;cases fz
   .exact⟨(i, .sl true f b xs),by simp [fN,d],rfl⟩
   .obtain⟨_,_,_,e⟩:=hs.ae i _ d;rw [e rfl] at ho;cases ho
  .simp at a
 .simp only [dm] at a;split at a
  .rename_i cs d;obtain⟨l,hl,_⟩:=M2.1 a;exact⟨(i, .eI l),by simp [fN,d,hl],rfl⟩
  .rename_i l d;obtain⟨_,_,e,_⟩:=hs.ae i _ d;rw [e] at ho;cases ho
  .simp at a
theorem Br(hs:HS c w h ρ O):∀{vs:List AV} {xs:List T},jv h vs=some xs->∀{i:Id} {ae:Nat},(∃u∈vs,pH u i)->O i=some ae->∃p∈kv h vs,p.1=i
 | [],_,_,i,ae,⟨u,hu,_⟩,_=>by cases hu
 | v::vs,xs,a,i,ae,⟨u,hu,g⟩,ho=>by
  simp only [jv] at a;cases b:dm h v with
  | none=>simp [b] at a
  | some x=>
   cases f:jv h vs with
   | none=>simp [b,f] at a
   | some l=>
    rcases Nj.1 hu with rfl | hu
    .obtain⟨p,d,e⟩:=tg hs b g ho;exact⟨p,Nn _ d,e⟩
    .obtain⟨p,d,e⟩:=Br hs f ⟨u,hu,g⟩ ho;exact⟨p,Nl _ d,e⟩
theorem HX(hs:HS c w h ρ O){v:AV}{xs:List T}(b:ju h v=some xs){i:Id}{ae:Nat}(a:Dn v i)(ho:O i=some ae):∃p∈fH h v,p.1=i:=by
 rcases a with a | ⟨vs,rfl,a⟩
 .have:∃x,dm h v=some x:=by
   rcases a with rfl | ⟨_,_,_,rfl⟩ | ⟨_,rfl⟩ <;> exact(M2.1 b).elim λx d=>⟨x,d.1⟩
  obtain⟨x,d⟩:=this;obtain⟨p,f,e⟩:=tg hs d a ho;refine⟨p, ?_,e⟩;rcases a with rfl | ⟨_,_,_,rfl⟩ | ⟨_,rfl⟩ <;> exact f
 .exact Br hs b a ho
theorem yd{v:AV}{xs:List T}{u:Value}{O':Id->Option Nat}(hs:HS c w h ρ O)(o:ai w (AA c w O) ρ v u)(f:ju h v=some xs)(le:Le w ρ O w ρ O')(g:∀i,O' i=O i\/O' i=none)
  (l:∀p∈fH h v,O' p.1=none):aR w (AA c w O') xs u.cells.toList/\∀y∈u.cells.toList,y.oneCell'=true/\y.cells= #[y]:=by
 refine Md hs o f (λb k=>(le.A b k).1) (λi ae m ho=> ?_);obtain⟨p,n,e⟩:=HX hs f m ho;refine⟨.inr (hs.own i ae ho),hs.lt i ae ho,λj a=> ?_⟩;rcases g j with d | d
 .rw [d] at a;have:=hs.inj j i ae a ho;subst this;have:=l p n;rw [e,d,a] at this;cases this
 .rw [d] at a;cases a
theorem iT(hs:HS c w h ρ O){i:Id}{u:Value}(e:ρ i=some u):u.oneCell'=true/\u.cells= #[u]:=by
 cases j:h i with
 | none=>
  cases k:i.real with
  | true=>rw [(hs.ct i k j).1] at e;cases e
  | false=>
   cases i with
   | g i n=>exact hs.gone i n u e
   | _=>cases k
 | some b=>
  have:=hs.ae i b j;cases b with
  | box cs=>obtain⟨b,_,_,d,_⟩:=this;rw [e] at d;simp only [M1] at d;subst d;exact⟨rfl,rfl⟩
  | sl fz sz b xs=>obtain⟨v,d,⟨a,cap,f,_⟩,_⟩:=this;rw [e] at d;simp only [M1] at d;subst d;subst f;exact⟨rfl,rfl⟩
  | eI l=>obtain⟨b,d,_⟩:=this;rw [e] at d;simp only [M1] at d;subst d;exact⟨rfl,rfl⟩
  | mp ag ks vk es=>obtain⟨b,_,_,d,_⟩:=this;rw [e] at d;simp only [M1] at d;subst d;exact⟨rfl,rfl⟩
  | arr cs=>obtain⟨b,_,_,d,_⟩:=this;rw [e] at d;simp only [M1] at d;subst d;exact⟨rfl,rfl⟩
  | rows b sz col rsz m es=>obtain⟨a,cap,d,_⟩:=this;rw [e] at d;simp only [M1] at d;subst d;exact⟨rfl,rfl⟩
  | dead=>obtain⟨⟨v,d,f⟩,_⟩:=this;rw [e] at d;simp only [M1] at d;subst d;exact f
theorem Ks(hs:HS c w h ρ O){v:AV}{u:Value}(a:ai w A ρ v u)(d:nF v=true):u.oneCell'=true/\u.cells= #[u]:=by
 cases v <;> simp only [nF,NA] at d <;> simp only [ai] at a
 case t=>exact a.n8
 case ref=>obtain⟨b,_,rfl⟩:=a;exact⟨rfl,rfl⟩
 case el=>obtain⟨_,_,_,_,_,rfl⟩:=a;exact⟨rfl,rfl⟩
 case own=>exact iT hs a
 case part=>obtain⟨_,_,_,_,_,_,_,rfl,_⟩:=a;exact⟨rfl,rfl⟩
 case row=>exact hs.gone _ _ _ a
 case rel=>obtain⟨_,_,_,_,_,rfl⟩:=a;exact⟨rfl,rfl⟩
 case fn=>obtain⟨_,_,rfl,_⟩:=a;exact⟨rfl,rfl⟩
theorem sI(hs:HS c w h ρ O){v:AV}{u:Value}(a:ai w A ρ v u)(g:(fE v).all nF=true):az w A ρ (fE v) u.cells.toList/\∀y∈u.cells.toList,y.oneCell'=true/\y.cells= #[y]:=by
 have one:fE v= [v]->az w A ρ (fE v) u.cells.toList/\∀y∈u.cells.toList,y.oneCell'=true/\y.cells= #[y]:=by intro e;rw [e] at g⊢;simp only [Ot,List.all_nil,Og] at g;have d:=Ks hs a g;rw [d.2];refine⟨by simp only [az];exact⟨u,[],rfl,a,rfl⟩, ?_⟩;intro y b;simp at b;subst b;exact d
 cases v
 case agg vs=>simp only [ai] at a;obtain⟨j,rfl,d,i⟩:=a;exact⟨by simpa [fE,Value.cells] using d,by simpa [Value.cells] using i⟩
 case fn f x y=>
  cases x with
  | cons _ _=>exact one rfl
  | nil=>cases y with
   | cons _ _=>exact one rfl
   | nil=>simp only [ai,az] at a;obtain⟨k,l,rfl,rfl,rfl⟩:=a;refine⟨by simp [fE,Value.cells,az,ai,ay], ?_⟩;intro y b;simp [Value.cells] at b;subst b;exact⟨rfl,rfl⟩
 all_goals exact one rfl
end
open Go Go.IntKind
section
variable {P:Program} {w w':World} {A A':Nat->Prop} {c:Ctx} {ρ:Id->Option Value} {O:Id->Option Nat} {s:St} {cc:Option Bool} {h:Id->Option ab}
theorem qw{b:Nat}{arr:Array Value}{t:TypeId}{a:Nat×Nat}(d:w.heap[b]? =some (.cells arr t a))(cs:Array Value)(p:Nat):(w.setRow b cs).cell? ⟨b,p,none⟩=cs[p]?:=by simp only [World.cell?,setRow_heap w b arr cs t a d];rfl
theorem je{b:Nat}{arr:Array Value}{t:TypeId}{a:Nat×Nat}(d:w.heap[b]? =some (.cells arr t a))(p:Nat):w.cell? ⟨b,p,none⟩=arr[p]?:=by simp only [World.cell?,d];rfl
theorem oh(w:World)(b:Nat)(cs:Array Value):(w.setRow b cs).heap.size=w.heap.size:=by simp [World.setRow]
theorem pJ{e:Type}(off:Nat)(new a:List e)(hl:off+new.length<=a.length)(p:Nat):(cm off new a)[p]? =if off<=p/\p < off+new.length then new[p - off]? else a[p]?:=by
 unfold cm;rw [Nx];have b:(a.take off).length=off:=by rw [N2];omega
 by_cases h:p < off
 .rw [Nu (by omega),if_neg (by omega),Pc,if_pos h]
 .rw [NI (by omega),b];by_cases d:p < off+new.length
  .rw [Nu (by omega),if_pos ⟨by omega,d⟩]
  .rw [NI (by omega),if_neg (by omega),Pd];congr 1;omega
theorem og{b:Type}(off:Nat)(new a:List b)(hl:off+new.length<=a.length):(cm off new a).length=a.length:=by simp only [cm,N6,N2,Oj];omega
theorem aZ.jq{ae:Nat}:∀{l:List T} {vs:List Value} {off:Nat},aR w A l vs->(∀j v,vs[j]? =some v->w.cell? ⟨ae,off+j,none⟩=some v)->aZ w A ae off l
 | [],_,_,_,_=>by simp [aZ]
 | x::l,vs,off,⟨v,r,e,b,d⟩,a=>by subst e;simp only [aZ];refine⟨⟨v,by simpa using a 0 v rfl,b⟩,aZ.jq d λj u f=> ?_⟩;have:=a (j+1) u (by simpa using f);rw [show off+1+j=off+ (j+1) by omega];exact this
theorem aZ.cells{ae:Nat}(a:∀b,A b->A' b/\w'.heap[b]? =w.heap[b]?):∀{cs:List T} {off:Nat},(∀j,j < cs.length->w'.cell? ⟨ae,off+j,none⟩=w.cell? ⟨ae,off+j,none⟩)->aZ w A ae off cs->aZ w' A' ae off cs
 | [],_,_,_=>by simp [aZ]
 | x::cs,off,d,e=>by
  simp only [aZ] at e⊢;obtain⟨⟨v,f,g⟩,i⟩:=e;refine⟨⟨v, ?_,ay.mono a x v g⟩,aZ.cells a (λj k=> ?_) i⟩
  .have:=d 0 (by simp);simp only [Pa] at this;rw [this];exact f
  .have:=d (j+1) (by simp;omega);rw [show off+1+j=off+ (j+1) by omega];exact this
theorem aZ.append{ae:Nat}:∀{a b:List T} {off:Nat},aZ w A ae off a->aZ w A ae (off+a.length) b->aZ w A ae off (a++b)
 | [],b,off,_,h=>by simpa using h
 | x::a,b,off,h,d=>by
  simp only [aZ,NR] at h⊢;refine⟨h.1,aZ.append h.2 ?_⟩;have:off+1+a.length=off+ (x::a).length:=by simp;omega
  rw [this];exact d
theorem aZ.take{ae:Nat}:∀{cs:List T} {off:Nat},aZ w A ae off cs->∀n,aZ w A ae off (cs.take n)
 | _,_,_,0=>by simp [aZ]
 | [],_,_,n+1=>by simp [aZ]
 | x::cs,off,h,n+1=>by simp only [aZ,Px] at h⊢;exact⟨h.1,aZ.take h.2 n⟩
theorem bd.cells{ae sz:Nat}(d:∀b,A b->A' b/\w'.heap[b]? =w.heap[b]?):∀{xs:List (List T)} {off:Nat},(∀p,off<=p->p < off+xs.length * sz->w'.cell? ⟨ae,p,none⟩=w.cell? ⟨ae,p,none⟩)->bd w A ae sz off xs->bd w' A' ae sz off xs
 | [],_,_,_=>by simp [bd]
 | cs::xs,off,f,a=>by
  simp only [bd] at a⊢;have e:(cs::xs).length * sz=sz+xs.length * sz:=by simp [NY];omega
  refine⟨a.1,aZ.cells d (λj k=>f _ (by omega) (by rw [e];omega)) a.2.1,bd.cells d (λp g i=>f p (by omega) (by rw [e];omega)) a.2.2⟩
theorem bd.set{ae sz:Nat}(i:∀b,A b->A' b/\w'.heap[b]? =w.heap[b]?):∀{xs:List (List T)} {off k:Nat} {new:List T},bd w A ae sz off xs->k < xs.length->new.length=sz->aZ w' A' ae (off+k * sz) new->
  (∀p,off<=p->p < off+xs.length * sz->¬(off+k * sz<=p/\p < off+k * sz+sz)->w'.cell? ⟨ae,p,none⟩=w.cell? ⟨ae,p,none⟩)->bd w' A' ae sz off (xs.set k new)
 | [],_,_,_,_,l,_,_,_=>by simp at l
 | cs::xs,off,0,new,d,_,m,a,f=>by
  simp only [bd,Pz] at d⊢;have e:(cs::xs).length * sz=sz+xs.length * sz:=by simp [NY];omega
  exact⟨m,by simpa using a,bd.cells i (λp n o=>f p (by omega) (by rw [e];omega) (by omega)) d.2.2⟩
 | cs::xs,off,k+1,new,d,l,m,a,f=>by
  simp only [bd,Pe] at d⊢;have e:(cs::xs).length * sz=sz+xs.length * sz:=by simp [NY];omega
  have g:(k+1) * sz=sz+k * sz:=by rw [NY];omega
  refine⟨d.1,aZ.cells i (λj r=>f _ (by omega) (by rw [e];omega) (by rw [g];omega)) d.2.1,bd.set i d.2.2 (by simpa using l) m ?_ (λp n o q=>f p (by omega) (by rw [e];omega) (by rw [g];omega))⟩;rw [show off+sz+k * sz=off+ (k+1) * sz by rw [g];omega];exact a
theorem az.cm{a l:List AV}{vs us:List Value}(h:az w A ρ a vs)(b:az w A ρ l us)(off:Nat):az w A ρ (cm off l a) (cm off us vs):=by unfold Aev.cm;have:=b.length;rw [this];exact((h.take off).append b).append (h.drop _)
theorem aZ.cm{ae base off:Nat}{cs l:List T}(a:aZ w A ae base (cs.take off))(b:aZ w A ae (base+off) l)(d:aZ w A ae (base+off+l.length) (cs.drop (off+l.length)))(hl:off<=cs.length):aZ w A ae base (cm off l cs):=by
 unfold Aev.cm;rw [Nx];have lt:(cs.take off).length=off:=by rw [N2];omega
 exact aZ.append a (aZ.append (by rw [lt];exact b) (by rw [lt];exact d))
theorem ur{t:TypeId}(g:bW P t=true){b off:Nat}{arr:Array Value}{d:TypeId}{v:Value}(f:w.heap[b]? =some (.cells arr d (0,0)))(hl:v.cells.size=P.cellsOf t)(a:off+v.cells.toList.length<=arr.size)
  (e:∀u∈v.cells.toList,u.oneCell'=true):(storeVar t ⟨b,off,none⟩ v).run P w= .ok () (w.setRow b (cm off v.cells.toList arr.toList).toArray):=by
 unfold storeVar;simp only [Nv,gW g,Ni,hl,ne_eq,not_true_eq_false,if_false];have:=run_storeCells_at P b off d v.cells.toList 0 arr w f (by simpa using a) e;simp only [Pa] at this;rw [this];rfl
theorem Bp{v:AV}{p:Id×ab}(a:p∈fN h v):p.1∈v.ids:=by
 unfold fN at a;split at a
 .split at a
  .simp only [Ng] at a;subst a;simp [AV.ids]
  .cases a
 .split at a
  .simp only [Ng] at a;subst a;simp [AV.ids]
  .cases a
 .split at a
  .split at a
   .simp only [Ng] at a;subst a;simp [AV.ids]
   .cases a
  .cases a
 .cases a
theorem Bs:∀{vs:List AV} {p:Id×ab},p∈kv h vs->p.1∈bX vs
 | [],p,a=>by cases a
 | v::vs,p,a=>by
  simp only [kv,Nq] at a;simp only [bX,Nq];rcases a with a | a
  .exact .inl (Bp a)
  .exact .inr (Bs a)
theorem Bu{v:AV}{p:Id×ab}(a:p∈fH h v):p.1∈v.ids:=by
 unfold fH at a;split at a
 .simp only [AV.ids];exact Bs a
 .exact Bp a
theorem de:∀{us:aE} {h:Id->Option ab} {i:Id},(∀p∈us,p.1≠i)->aJ h us i=h i
 | [],_,_,_=>rfl
 | (j,b)::us,h,i,a=>by rw [cJ,de (λp d=>a p (M4 _ d)),aq _ _ (λe=>a (j,b) M3 e.symm)]
theorem rX:∀{us:aE} {h:Id->Option ab} {i:Id} {b:ab},(∀p∈us,p.1≠i)->aJ (aH h i (some b)) us=aH (aJ h us) i (some b)
 | [],_,_,_,_=>rfl
 | (j,x)::us,h,i,b,f=>by
  rw [cJ,cJ,<-rX (λp g=>f p (M4 _ g))];congr 1;funext k;have:j≠i:=λe=>f (j,x) M3 e;by_cases a:k=j
  .subst a;rw [aC,aq _ _ this,aC]
  .by_cases d:k=i
   .subst d;rw [aq _ _ a,aC,aC]
   .rw [aq _ _ a,aq _ _ d,aq _ _ d,aq _ _ a]
theorem HS.nR{us:aE}(hs:HS c w h ρ O)(a:fA h us):
  ∃O',Le w ρ O w ρ O'/\HS c w (aJ h us) ρ O'/\(∀i,O' i=O i\/O' i=none)/\(∀p∈us,O' p.1=none)/\∀i,(∀p∈us,p.1≠i)->O' i=O i:=HS.Bn hs a
theorem uB{b:Nat}{i:Id}(a:O i=some b)(cs:Array Value):Le w ρ O (w.setRow b cs) ρ O:=
 Le.write a rfl rfl rfl (oh w b cs) λk d=>setRow_other w b k cs d
theorem cF.put{t:TypeId}{sz k off b o L cap:Nat}{bb:Bool}{xs M:List (List T)}{l:List T}{d:Value}{Q:Nat->Prop}(V:cF w A sz bb xs (.slice (some ⟨b,o,none⟩) L cap) Q)(f:fV k off l xs=some M)(W:bW P t=true)
  (N:l.length=P.cellsOf t) (C:aR w A l d.cells.toList) (R:∀u∈d.cells.toList,u.oneCell'=true/\u.cells= #[u]):
  ∃cs,Q b/\(storeVar t ⟨b,o+k * sz+off,none⟩ d).run P w= .ok () (w.setRow b cs)/\
   ∀A' B,(∀n,A n->A' n/\(w.setRow b cs).heap[n]? =w.heap[n]?)->B b->cF (w.setRow b cs) A' sz bb M (.slice (some ⟨b,o,none⟩) L cap) B:=by
 obtain⟨a',cap',G,Y,Z,q4,H⟩:=V;simp only [N7] at G;obtain⟨rfl,rfl,rfl⟩:=G;unfold fV at f;cases i:xs[k]? with
 | none=>simp [i] at f
 | some cs=>
  simp only [i] at f;split at f
  .rename_i q;simp only [M1] at f;subst f;have E:k < xs.length:=(M5.1 i).1;rcases H with H | ⟨ae,off',arr,K,I,q7,v,q9,z⟩
   .omega
   .simp only [M1,NZ] at I;obtain⟨rfl,rfl,_⟩:=I;obtain⟨F,x⟩:=z.get i;have S:=C.length;have U:(k+1) * sz<=cap * sz:=NX _ (by omega);have e2:(k+1) * sz=k * sz+sz:=NY _ _;have e:o+k * sz+off+d.cells.toList.length<=arr.size:=by omega
    have J:=ur (P:=P) W v (by rw [<-NB,S,N]) e (λu X=>(R u X).1);refine⟨_,q7,J,λA' B g D=> ?_⟩;have y:(xs.set k (cm off l cs)).length=xs.length:=by simp
    refine⟨some ⟨b,o,none⟩,cap,by rw [y],by rw [y];exact Y,Z,q4, .inr ⟨b,o,_,K,rfl,D,setRow_heap w b arr _ K (0,0) v, ?_, ?_⟩⟩
    .have:=og (o+k * sz+off) d.cells.toList arr.toList (by simpa using e);simp only [Oo];rw [this];simpa using q9
    .have a:∀p,(w.setRow b (cm (o+k * sz+off) d.cells.toList arr.toList).toArray).cell? ⟨b,p,none⟩=if o+k * sz+off<=p/\p < o+k * sz+off+d.cells.toList.length then d.cells.toList[p - (o+k * sz+off)]? else w.cell? ⟨b,p,none⟩:=by
      intro p;rw [qw v,O5,pJ _ _ _ (by simpa using e),je v];simp
     have r:(cm off l cs).length=sz:=by rw [og off l cs q,F]
     refine bd.set g z E r ?_ ?_
     .refine aZ.cm (aZ.cells g (λj m=> ?_) (x.take off)) ?_ ?_ (by omega)
      .have lt:(cs.take off).length=off:=by rw [N2];omega
       rw [lt] at m;rw [a,if_neg (by omega)]
      .refine aZ.jq (aR.mono g _ _ C) (λj u m=> ?_);have hj':j < d.cells.toList.length:=(M5.1 m).1;rw [a,if_pos (by omega)];rw [show o+k * sz+off+j - (o+k * sz+off)=j by omega];exact m
      .have:=x.drop (off+l.length);rw [show o+k * sz+off+l.length=o+k * sz+ (off+l.length) by omega];refine aZ.cells g (λj m=> ?_) this;rw [a,if_neg (by omega)]
     .intro p h1 h2 h3;rw [a,if_neg (by omega)]
  .simp at f
theorem s6{n:Nat}{p:Bool×List (List T)}:∀{es:List Row},cv n es=some p->∃k e,es[k]? =some e/\e.n=n/\e.own=some p/\∀q,cR n q es=es.set k {e with own:=q}
 | [],h=>by simp [cv] at h
 | e::es,h=>by
  unfold cv at h;by_cases c:e.n=n
  .rw [if_pos c] at h;exact⟨0,e,rfl,c,h,λq=>by simp [cR,c]⟩
  .rw [if_neg c] at h;obtain⟨k,e',a,b,d,f⟩:=s6 h;exact⟨k+1,e',by simpa using a,b,d,λq=>by simp [cR,c,f]⟩
theorem rp{es:List Row}(h:(es.map (·.n)).Nodup){j k:Nat}{x y:Row}(g:es[j]? =some x)(i:es[k]? =some y)(e:x.n=y.n):j=k:=by
 have d:(es.map (·.n))[j]? =some x.n:=by simp [g]
 have f:(es.map (·.n))[k]? =some x.n:=by simp [i,e]
 obtain⟨l,a⟩:=M5.1 d;obtain⟨m,b⟩:=M5.1 f;exact(List.getElem_inj h).1 (a.trans b.symm)
theorem CI:∀{l:List Nat} {k x:Nat},l.Nodup->x∉l->(l.set k x).Nodup
 | [],_,_,_,_=>by simp
 | a::l,0,x,b,d=>by simp only [Pz,Od,Nj,not_or] at b d⊢;exact⟨d.2,b.2⟩
 | a::l,k+1,x,b,d=>by
  simp only [Pe,Od,Nj,not_or] at b d⊢;refine⟨λhm=> ?_,CI b.2 d.2⟩;rcases OQ hm with h | h
  .exact b.1 h
  .exact d.1 h.symm
theorem Ih{O':Id->Option Nat}(hs:HS c w h ρ O)(τ:Id->Option Id)(a:∀k b,O' k=some b->∃x,τ k=some x/\O x=some b)(d:∀k e x,τ k=some x->τ e=some x->k=e):∀i j b,O' i=some b->O' j=some b->i=j:=by intro i j b f g;obtain⟨x,l,x2⟩:=a i b f;obtain⟨y,m,n⟩:=a j b g;have:=hs.inj x y b x2 n;subst this;exact d i j x l m
theorem HS.putRow{i j:Id}{b bb:Bool}{sz col rsz q k ae:Nat}{es:List Row}{e:Row}{xs:List (List T)}{J:Value}{cs:Array Value}(hs:HS c w h ρ O)(hi:h i=some (.rows b sz col rsz q es))(X:h j=some (.sl false rsz bb xs))(V:es[k]? =some e)(hv:ρ j=some J)
  {a:Option Addr} {cap:Nat} (hρ:ρ i=some (.slice a es.length cap)) {off:Nat} {arr:Array Value} {t:TypeId} (ha:a=some ⟨ae,off,none⟩) (hO:O i=some ae) (hb:w.heap[ae]? =some (.cells arr t (0,0))) (hfit:off+cap * sz<=arr.size)
  (hcs:cs= (cm (off+k * sz+col) [J] arr.toList).toArray):
  ∃ρ' O',Le w ρ O (w.setRow ae cs) ρ' O'/\HS c (w.setRow ae cs) (aH (aH h j (some .dead)) i (some (.rows b sz col rsz (q+1) (es.set k ⟨q,e.cs,some (bb,xs)⟩)))) ρ' O':=by
 obtain⟨a',cap',r1,r2,r3,⟨n1,n2,n3,n4⟩,r5⟩:=hs.ae i _ hi;rw [hρ] at r1;simp only [M1,N7] at r1;obtain⟨rfl, -,rfl⟩:=r1;have hlt:k < es.length:=(M5.1 V).1;have R:cn w (AA c w O) ρ O i ae sz col rsz off es:=by
  rcases r5 with r5 | ⟨blk',off',arr',t',q1,q2,q3,q4,q5⟩
  .omega
  .rw [ha] at q1;simp only [M1,NZ] at q1;obtain⟨rfl,rfl,_⟩:=q1;exact q5
 have hen:e.n < q:=n2 e (Nh V);have G:=hs.real (i:=i) (by rw [hi];simp);have Q:=hs.real (i:=j) (by rw [X];simp);have hij:j≠i:=λe=>by rw [e,hi] at X;cases X
 have N:∀n,Id.g i n≠j:=λn=>aP Q;obtain⟨v',s1,s2,_⟩:=hs.ae j _ X;rw [hv] at s1;cases s1;have I:=R.get V;have hcol:=I.2.1;have hbnd:(k+1) * sz<=cap * sz:=NX _ (by omega);have e2:(k+1) * sz=k * sz+sz:=NY _ _;have L:off+k * sz+col+ [J].length<=arr.toList.length:=by simp;omega
 let ρ':Id->Option Value:=aH ρ (.g i q) (some J);let O':Id->Option Nat:=λx=>if x= .g i q then O j else if x=j then none else if x= .g i e.n then none else O x;have F:∀x,x≠ .g i q->x≠j->x≠ .g i e.n->O' x=O x:=λx o H S=>by simp only [O',if_neg o,if_neg H,if_neg S]
 have hOn:O' (.g i q)=O j:=by simp only [O',if_true]
 have hOj:O' j=none:=by simp only [O',if_neg (N q).symm,if_true]
 have hOe:O' (.g i e.n)=none:=by
  have o:Id.g i e.n≠ .g i q:=by intro h;cases h;omega
  simp only [O',if_neg o,if_neg (N e.n),if_true]
 have K:∀x d,O' x=some d->(x= .g i q/\O j=some d)\/(x≠ .g i q/\x≠j/\x≠ .g i e.n/\O x=some d):=by
  intro x d l;simp only [O'] at l;split at l
  .exact .inl ⟨by assumption,l⟩
  .split at l
   .cases l
   .split at l
    .cases l
    .exact .inr ⟨by assumption,by assumption,by assumption,l⟩
 have le:Le w ρ O (w.setRow ae cs) ρ' O':=by
  refine⟨rfl,rfl,rfl,by rw [oh];exact Ns _,λx u l=> ?_,λd _ hn=>setRow_other w ae d _ λe=>hn i (e▸hO),λx d l=> ?_⟩
  .by_cases e:x= .g i q
   .subst e;rw [n3 q (Ns _)] at l;cases l
   .simp only [ρ'];rw [aq _ _ e];exact l
  .rcases K x d l with⟨_,h⟩ | ⟨_,_,_,h⟩
   .exact .inl ⟨j,h⟩
   .exact .inl ⟨x,h⟩
 have C:∀x d,x≠i->O x=some d->(w.setRow ae cs).heap[d]? =w.heap[d]?:=λx d l r=>setRow_other w ae d _ λe=>l (hs.inj x i ae (e▸r) hO);refine⟨ρ',O',le,hs.mv le (λx y l=> ?_) (λx Z l=> ?_) (λx n=> ?_) (λx n l=> ?_) (λx n u U=> ?_) ?_ (λx d l=> ?_)⟩
 .by_cases v:x=i
  .subst v;rw [aC] at l;cases l;right;have W:(es.set k ⟨q,e.cs,some (bb,xs)⟩).length=es.length:=by simp
   refine⟨a,cap, ?_,by rw [W];exact r2,r3,⟨?_,λf E=> ?_,λn hn=> ?_,λn d r=> ?_⟩, .inr ⟨ae,off,cs,t,ha, ?_,setRow_heap w ae arr _ t (0,0) hb, ?_, ?_⟩⟩
   .rw [W];simp only [ρ'];rw [aq _ _ (aP G).symm];exact hρ
   .rw [P2];refine CI n1 ?_;intro hm;obtain⟨f,E,e⟩:=NG.1 hm;simp only at e;have:=n2 f E;omega
   .rcases OQ E with E | rfl
    .have:=n2 f E;omega
    .simp
   .have o:Id.g x n≠ .g x q:=by intro h;cases h;omega
    simp only [ρ'];rw [aq _ _ o];exact n3 n (by omega)
   .rcases K _ d r with⟨h,_⟩ | ⟨o,_,S,h4⟩
    .cases h;exact⟨_,List.mem_set hlt _,rfl⟩
    .obtain⟨f,E,M⟩:=n4 n d h4;obtain⟨m,hm⟩:=Pk.1 E;have hmk:m≠k:=λe'=>by rw [e',V] at hm;cases hm;rw [M] at S;exact S rfl
     refine⟨f,Pk.2 ⟨m, ?_⟩,M⟩;rw [On,if_neg (PM hmk)];exact hm
   .rw [F x (aP G).symm (PM hij) (aP G).symm];exact hO
   .rw [hcs,Oo,og _ _ _ L];simpa using hfit
   .have D:∀p,(w.setRow ae cs).cell? ⟨ae,p,none⟩=if off+k * sz+col<=p/\p < off+k * sz+col+1 then some J else w.cell? ⟨ae,p,none⟩:=by
     intro p;rw [qw hb,hcs,O5,pJ _ _ _ L,je hb];by_cases Y:off+k * sz+col<=p/\p < off+k * sz+col+1
     .rw [if_pos (by simpa using Y),if_pos Y,show p - (off+k * sz+col)=0 by omega];rfl
     .rw [if_neg (by simpa using Y),if_neg Y];simp
    refine cn.set (λd r=>le.A d r) hlt (λp p1 p2 p3=>by rw [D,if_neg (by omega)]) (λm f hm E=> ?_) ?_ R
    .have M:f.n≠e.n:=λe'=>hm (rp n1 E V e');have hfx:f.n≠q:=by have:=n2 f (Nh E);omega
     have o:Id.g x f.n≠ .g x q:=by intro h;simp only [Id.g.injEq] at h;exact hfx h.2
     have H:Id.g x f.n≠ .g x e.n:=by intro h;simp only [Id.g.injEq] at h;exact M h.2
     refine⟨by simp only [ρ'];exact aq _ _ o,F _ o (N _) H,λd r=>C _ d (aP G) r⟩
    .refine⟨I.1,hcol,λm y hm B=> ?_,J,by rw [D,if_pos (by omega)],by simp only [ρ'];exact aC _ _ _, ?_⟩
     .obtain⟨u,g1,g2⟩:=I.2.2.1 m y hm B;have hml:m < sz:=by have:=(M5.1 B).1;rw [I.1] at this;exact this
      exact⟨u,by rw [D,if_neg (by omega)];exact g1,ay.mono (λd r=>le.A d r) y u g2⟩
     .simp only;refine cF.mono (λd r=>le.A d r) (λd r=> ?_) s2;simp only [NA,if_false] at r;rw [hOn];exact⟨r,C j d hij r⟩
  .rw [aq _ _ v] at l;by_cases e3:x=j
   .subst e3;rw [aC] at l;cases l;exact .inr ⟨⟨J,by simp only [ρ'];rw [aq _ _ (N q).symm];exact hv,iT hs hv⟩,hOj⟩
   .rw [aq _ _ e3] at l;have hrx:=hs.real (i:=x) (by rw [l];simp);refine .inl ⟨l,F x (aP hrx).symm e3 (aP hrx).symm,λd r=>C x d v r,λn=> ?_⟩;have o:∀m,Id.g x n≠ .g i m:=by intro m h;cases h;exact v rfl
    exact⟨by simp only [ρ'];exact aq _ _ (o _),F _ (o _) (aP Q) (o _),λd r=>C _ d (aP G) r⟩
 .by_cases v:x=i
  .subst v;rw [aC] at l;cases l
  .rw [aq _ _ v] at l;by_cases e3:x=j
   .subst e3;rw [aC] at l;cases l
   .rw [aq _ _ e3] at l;have:=hs.ct x Z l;refine⟨?_, ?_⟩
    .simp only [ρ'];rw [aq _ _ (aP Z).symm];exact this.1
    .rw [F x (aP Z).symm e3 (aP Z).symm];exact this.2
 .rw [aq _ _ (aP G),aq _ _ (aP Q)];exact hs.dB x n
 .by_cases v:x=i
  .subst v;rw [aC] at l;cases l
  .rw [aq _ _ v] at l;by_cases e3:x=j
   .subst e3;rw [aC] at l;cases l
   .rw [aq _ _ e3] at l;have:=hs.eQ x n l;have o:∀m,Id.g x n≠ .g i m:=by intro m h;cases h;exact v rfl
    refine⟨?_, ?_⟩
    .simp only [ρ'];rw [aq _ _ (o _)];exact this.1
    .rw [F _ (o _) (aP Q) (o _)];exact this.2
 .by_cases v:Id.g x n= .g i q
  .rw [v] at U;simp only [ρ',aC,M1] at U;subst U;exact iT hs hv
  .simp only [ρ'] at U;rw [aq _ _ v] at U;exact hs.gone x n u U
 .refine Ih hs (λx=>if x= .g i q then some j else if x=j then none else some x) (λx d l=> ?_) (λx y z l B=> ?_)
  .rcases K x d l with⟨o,H⟩ | ⟨o,H,_,S⟩
   .exact⟨j,by rw [if_pos o],H⟩
   .exact⟨x,by rw [if_neg o,if_neg H],S⟩
  .split at l <;> split at B
   .rename_i o H;rw [o,H]
   .split at B
    .cases B
    .simp only [M1] at l B;subst l;rename_i h;exact(h B).elim
   .split at l
    .cases l
    .simp only [M1] at l B;subst B;rename_i h;exact(h l).elim
   .split at l
    .cases l
    .split at B
     .cases B
     .simp only [M1] at l B;rw [l,B]
 .rw [oh];rcases K x d l with⟨_,h⟩ | ⟨_,_,_,h⟩
  .exact hs.lt _ d h
  .exact hs.lt _ d h
theorem HS.MQ{i:Id}{n r:Nat}{b:Bool}{sz col rsz X:Nat}{es:List Row}{p:Bool×List (List T)}{F:List (List T)}{v:Value}{cs:Array Value}(hs:HS c w h ρ O)(Q:h i=some (.rows b sz col rsz X es))(hf:cv n es=some p)(M:O (.g i n)=some r)
  (U:ρ (.g i n)=some v) (S:cF (w.setRow r cs) (AA c (w.setRow r cs) O) rsz p.1 F v (λd=>O (.g i n)=some d)):
  HS c (w.setRow r cs) (aH h i (some (.rows b sz col rsz X (cR n (some (p.1,F)) es)))) ρ O:=by
 have le:Le w ρ O (w.setRow r cs) ρ O:=uB M _;have H:=hs.real (i:=i) (by rw [Q];simp);have o:∀x d,x≠ .g i n->O x=some d->(w.setRow r cs).heap[d]? =w.heap[d]?:=λx d j l=>setRow_other w r d _ λe=>j (hs.inj x _ r (e▸l) M);obtain⟨k,e,C,G,heo,K⟩:=s6 hf;refine hs.mv le (λx y j=> ?_) (λx hr j=> ?_) (λx m=> ?_) (λx m j=> ?_) hs.gone hs.inj (λx d l=>by rw [oh];exact hs.lt x d l)
 .by_cases z:x=i
  .subst z;rw [aC] at j;cases j;right;obtain⟨a,cap,r1,r2,r3,⟨V,W,n3,n4⟩,L⟩:=hs.ae x _ Q;rw [K];have D:(es.set k {e with own:=some (p.1,F)}).length=es.length:=by simp
   have E:(es.set k {e with own:=some (p.1,F)}).map (·.n)=es.map (·.n):=by
    rw [P2];refine Oq λm=> ?_;rw [On];split
    .rename_i h;subst h;have:=(M5.1 C).1;rw [if_pos (by simpa using this)];simp [C]
    .rfl
   refine⟨a,cap,by rw [D];exact r1,by rw [D];exact r2,r3,⟨by rw [E];exact V,λf q=> ?_,n3,λm d l=> ?_⟩, ?_⟩
   .rcases OQ q with q | rfl
    .exact W f q
    .exact W e (Nh C)
   .obtain⟨f,q,N⟩:=n4 m d l;have:m∈(es.set k {e with own:=some (p.1,F)}).map (·.n):=by rw [E];exact NG.2 ⟨f,q,N⟩
    obtain⟨f',h1,h2⟩:=NG.1 this;exact⟨f',h1,h2⟩
   .rcases L with L | ⟨ae,off,arr,t,q1,Y,q3,q4,Z⟩
    .exact .inl L
    .have B:(w.setRow r cs).heap[ae]? =w.heap[ae]?:=o x ae (aP H).symm Y;refine .inr ⟨ae,off,arr,t,q1,Y,by rw [B];exact q3,q4, ?_⟩;have J:=Z.get C;refine cn.set (λd l=>le.A d l) (M5.1 C).1 (λ_ _ _ _=>kS B) (λm f hm q=>⟨rfl,rfl,λd l=>o _ d (λh=> ?_) l⟩) ?_ Z
     .simp only [Id.g.injEq] at h;exact hm (rp V q C (by rw [h.2,G]))
     .obtain⟨a1,a2,a3,u,a4,I,a7⟩:=J;refine⟨a1,a2,λm y hm hy=> ?_,u,by rw [kS B];exact a4,I, ?_⟩
      .obtain⟨u',g1,g2⟩:=a3 m y hm hy;exact⟨u',by rw [kS B];exact g1,ay.mono (λd l=>le.A d l) y u' g2⟩
      .simp only;rw [G] at I⊢;rw [I] at U;cases U;exact S
  .rw [aq _ _ z] at j;have R:=hs.real (i:=x) (by rw [j];simp);refine .inl ⟨j,rfl,λd l=>o x d (aP R).symm l,λm=>⟨rfl,rfl,λd l=>o _ d (λh=> ?_) l⟩⟩;simp only [Id.g.injEq] at h;exact z h.1
 .by_cases z:x=i
  .subst z;rw [aC] at j;cases j
  .rw [aq _ _ z] at j;exact hs.ct x hr j
 .rw [aq _ _ (aP H)];exact hs.dB x m
 .by_cases z:x=i
  .subst z;rw [aC] at j;cases j
  .rw [aq _ _ z] at j;exact hs.eQ x m j
theorem Mp{R:Type}{t:TypeId}{a v:AV}{va y:Value}{K:aE->Option R}{r:R}(hs:HS c w s.h ρ O)(N:ai w (AA c w O) ρ a va)(hx:ai w (AA c w O) ρ v y)(f:gZ P s t a v K=some r):
  ∃us w' ρ' O',K us=some r/\(Instr.storeAt t va y).run P w= .ok () w'/\Le w ρ O w' ρ' O'/\HS c w' (aJ s.h us) ρ' O':=by
 unfold gZ at f;cases ht:bW P t
 .simp [ht] at f
 simp only [ht,cond_true] at f;split at f
 .rename_i i off;split at f
  .rename_i cs H;split at f
   .rename_i q;obtain⟨T,M,c3⟩:=q;obtain⟨b,arr,t',h1,h2,h3,h4,h5,h6⟩:=vf hs H;simp only [ai] at N;obtain⟨J,x,rfl⟩:=N;rw [h1] at x;simp only [M1,OB,NZ] at x;obtain⟨rfl,_⟩:=x;obtain⟨U,g2⟩:=sI hs hx M;have gl:=U.length;have hl:=h4.length;have D:off+y.cells.toList.length<=arr.size:=by rw [gl];simp only [NB] at hl;omega
    have B:=ur (P:=P) ht h3 (by rw [<-NB,gl,T]) D (λu hu=>(g2 u hu).1);have le:Le w ρ O (w.setRow b (cm off y.cells.toList arr.toList).toArray) ρ O:=uB h2 _;refine⟨_,_,ρ,O,f,by simpa [Instr.storeAt,Instr.sureAddr] using B,le, ?_⟩;rw [dr];refine hs.write h2 le (λk f=>setRow_other w b k _ f) _ ?_ (by rw [H];simp);refine⟨b,_,t',h1,h2,setRow_heap w b arr _ t' (0,0) h3, ?_, ?_⟩
    .have m:∀(Y:List AV) (vs:List Value),az w (AA c w O) ρ Y vs->az _ _ ρ Y vs:=λY vs hr=>az.mono (λb hb=>le.A b hb) le.dU Y vs hr;exact az.cm (m _ _ h4) (m _ _ U) off
    .intro u hu;simp only [cm,Nq] at hu;rcases hu with(hu | hu) | hu
     .exact h5 u (Pq hu)
     .exact g2 u hu
     .exact h5 u (Pr hu)
   .simp at f
  .simp at f
 .rename_i i sz k off;split at f
  .rename_i g bb xs H;obtain⟨l,hsn,f⟩:=M2.1 f;split at f
   .rename_i q;obtain⟨rfl,T,M⟩:=q;replace f:=aM f (.inl rfl);obtain⟨ys,I,f⟩:=f;have E:∀p∈fH s.h v,p.1≠i:=by
     intro p hp e;have:=Bu hp;rw [e] at this;simp only [List.contains_eq_mem,decide_eq_false_iff_not] at M;exact M this
    obtain⟨G,cq,S,o1,o2,o3⟩:=HS.nR hs (wA (h:=s.h) v);obtain⟨U,g2⟩:=yd hs hx hsn cq o1 o2;have Q:aJ s.h (fH s.h v) i=some (.sl false g bb xs):=by rw [de E];exact H
    obtain⟨vv,q0,a',cap',X,q2,q3,q4,q5⟩:=lR S Q;simp only [ai] at N;obtain⟨b,o,L,cap,x,rfl⟩:=N;rw [q0] at x;simp only [M1] at x;subst x;simp only [N7] at X;obtain⟨rfl,rfl,rfl⟩:=X;unfold fV at I;cases hkx:xs[k]? with
    | none=>simp [hkx] at I
    | some cs=>
     simp only [hkx] at I;split at I
     .rename_i hfit0;simp only [M1] at I;subst I;have hlt:k < xs.length:=(M5.1 hkx).1;rcases q5 with q5 | ⟨ae,off',arr,t',q6,q7,q8,q9,q10⟩
      .omega
      .simp only [M1,NZ] at q6;obtain⟨rfl,rfl,_⟩:=q6;simp only [NA,if_false] at q7;obtain⟨lcs,hcs⟩:=q10.get hkx;have gl:=U.length;have hbnd:(k+1) * g<=cap * g:=NX _ (by omega);have e2:(k+1) * g=k * g+g:=NY _ _;have D:o+k * g+off+y.cells.toList.length<=arr.size:=by omega
       have B:=ur (P:=P) ht q8 (by rw [<-NB,gl,T]) D (λu hu=>(g2 u hu).1);have F:Le w ρ G (w.setRow b (cm (o+k * g+off) y.cells.toList arr.toList).toArray) ρ G:=uB q7 _;refine⟨_,_,ρ,G,f,by simpa [Instr.storeAt,Instr.sureAddr] using B,cq.trans F, ?_⟩;rw [cJ,rX E];refine S.write q7 F (λk f=>setRow_other w b k _ f) _ ?_ (by rw [Q];simp);refine⟨_,q0, ?_,by simp⟩;have hl2:(xs.set k (cm off l cs)).length=xs.length:=by simp
       refine⟨some ⟨b,o,none⟩,cap,by rw [hl2],by rw [hl2];exact q2,q3,q4, .inr ⟨b,o,_,t',rfl,by simpa using q7,setRow_heap w b arr _ t' (0,0) q8, ?_, ?_⟩⟩
       .have:=og (o+k * g+off) y.cells.toList arr.toList (by simpa using D);simp only [Oo];rw [this];simpa using q9
       .have z:∀p,(w.setRow b (cm (o+k * g+off) y.cells.toList arr.toList).toArray).cell? ⟨b,p,none⟩=if o+k * g+off<=p/\p < o+k * g+off+y.cells.toList.length then y.cells.toList[p - (o+k * g+off)]? else w.cell? ⟨b,p,none⟩:=by
         intro p;rw [qw q8,O5,pJ _ _ _ (by simpa using D),je q8];simp
        have Z:∀J,AA c w G J->AA c (w.setRow b (cm (o+k * g+off) y.cells.toList arr.toList).toArray) G J/\(w.setRow b (cm (o+k * g+off) y.cells.toList arr.toList).toArray).heap[J]? =w.heap[J]?:=λJ hb'=>F.A J hb';have lrepl:(cm off l cs).length=g:=by rw [og off l cs hfit0,lcs]
        refine bd.set Z q10 hlt lrepl ?_ ?_
        .refine aZ.cm (aZ.cells Z (λj V=> ?_) (hcs.take off)) ?_ ?_ (by omega)
         .have lt:(cs.take off).length=off:=by rw [N2];omega
          rw [lt] at V;rw [z,if_neg (by omega)]
         .refine aZ.jq (aR.mono Z _ _ U) (λj u V=> ?_);have hj':j < y.cells.toList.length:=(M5.1 V).1;rw [z,if_pos (by omega)];rw [show o+k * g+off+j - (o+k * g+off)=j by omega];exact V
         .have:=hcs.drop (off+l.length);rw [show o+k * g+off+l.length=o+k * g+ (off+l.length) by omega];refine aZ.cells Z (λj V=> ?_) this;rw [z,if_neg (by omega)]
        .intro p h1 h2 h3;rw [z,if_neg (by omega)]
     .simp at I
   .simp at f
  .rename_i bb g col rsz nx es H;split at f
   .rename_i j;split at f
    .rename_i rsz' J xs V;split at f
     .rename_i q;obtain⟨rfl,rfl,rfl,T,M⟩:=q;replace f:=aM f (.inl rfl);obtain⟨e,he,f⟩:=f;obtain⟨a,cap,r1,r2,r3,r4,r5⟩:=hs.ae i _ H;simp only [ai] at N hx;obtain⟨b,o,L,cap',x,rfl⟩:=N;have e1':=x;rw [r1] at x;simp only [M1,N7] at x;obtain⟨rfl,rfl,rfl⟩:=x;have hlt:k < es.length:=(M5.1 he).1;rcases r5 with r5 | ⟨ae,off',arr,t',X,q2,q3,q4,q5⟩
      .omega
      .simp only [M1,NZ] at X;obtain⟨rfl,rfl,_⟩:=X;have W:=iT hs hx;have hcol:=(q5.get he).2.1;have hbnd:(k+1) * g<=cap * g:=NX _ (by omega);have e2:(k+1) * g=k * g+g:=NY _ _;have C:y.cells.toList= [y]:=by rw [W.2]
       have B:=ur (P:=P) (w:=w) (v:=y) ht q3 (by rw [W.2,T];rfl) (off:=o+k * g+off) (by rw [C];simp;omega) (λu hu=>by rw [C,Ng] at hu;subst hu;exact W.1);rw [C] at B;obtain⟨ρ',O',le,hs'⟩:=hs.putRow H V he hx r1 rfl q2 q3 q4 rfl;refine⟨_,_,ρ',O',f,by simpa [Instr.storeAt,Instr.sureAddr] using B,le, ?_⟩;rw [cJ,dr];exact hs'
     .simp at f
    .simp at f
   .simp at f
  .simp at f
 .rename_i i sz n k off;split at f
  .rename_i b g col rsz nx es H;replace f:=aM f (.inl rfl);obtain⟨p,hp,f⟩:=f;replace f:=M2.1 f;obtain⟨l,hsn,f⟩:=f;split at f
   .rename_i q;obtain⟨rfl,T,M⟩:=q;replace f:=aM f (.inl rfl);obtain⟨ys,I,f⟩:=f;have E:∀p∈fH s.h v,p.1≠i:=by
     intro p hp e;have:=Bu hp;rw [e] at this;simp only [List.contains_eq_mem,decide_eq_false_iff_not] at M;exact M this
    obtain⟨G,cq,S,o1,o2,o3⟩:=HS.nR hs (wA (h:=s.h) v);obtain⟨U,g2⟩:=yd hs hx hsn cq o1 o2;have Q:aJ s.h (fH s.h v) i=some (.rows b g col rsz nx es):=by rw [de E];exact H
    obtain⟨vv,q0,X⟩:=um (s:=⟨s.t,aJ s.h (fH s.h v)⟩) S Q hp;simp only [ai] at N;obtain⟨bk,o,L,cap,x,rfl⟩:=N;rw [q0] at x;simp only [M1] at x;subst x;obtain⟨cs,hOb,B,hsl⟩:=X.put (P:=P) I ht T U g2;have F:Le w ρ G (w.setRow bk cs) ρ G:=uB hOb _;refine⟨_,_,ρ,G,f,by simpa [Instr.storeAt,Instr.sureAddr] using B,cq.trans F, ?_⟩;rw [cJ,rX E];exact S.MQ Q hp hOb q0 (hsl _ _ (λd hd=>F.A d hd) hOb)
   .simp at f
  .simp at f
 .simp at f
theorem DP(t:TypeId)(cells:Array Value):(newRow t cells).run P w= .ok ⟨w.heap.size,0,none⟩ (w.alloc (.cells cells t)):=by simp [newRow]
theorem jh(o:Obj):(w.alloc o).heap[w.heap.size]? =some o:=by show(w.heap.push o)[w.heap.size]? =some o;simp
theorem HS.CD{i:Id}(hs:HS c w h ρ O)(a:h i=none){cs:List AV}{vs:List Value}(t:TypeId)(f:az w (AA c w O) ρ cs vs)(d:∀u∈vs,u.oneCell'=true/\u.cells= #[u])(hrl:i.real=true:=by rfl):
  Le w ρ O (w.alloc (.cells vs.toArray t)) (aH ρ i (some (.pointer (some ⟨w.heap.size,0,none⟩)))) (aH O i (some w.heap.size))/\
  HS c (w.alloc (.cells vs.toArray t)) (aH h i (some (.box cs))) (aH ρ i (some (.pointer (some ⟨w.heap.size,0,none⟩)))) (aH O i (some w.heap.size)):=by
 have le:=Le.alloc hs hrl a (.cells vs.toArray t) (.pointer (some ⟨w.heap.size,0,none⟩)) (some w.heap.size) (.inr rfl);refine⟨le,hs.alloc hrl a _ _ _ (.inr rfl) _ ⟨w.heap.size,vs.toArray,t,by simp,by simp,jh _, ?_,d⟩⟩;exact az.mono (λb e=>le.A b e) le.dU _ _ f
theorem HS.JO{i:Id}(hs:HS c w h ρ O)(a:h i=none){cs:List AV}{arr:Array Value}(t:TypeId)(f:az w (AA c w O) ρ cs arr.toList)(d:∀u∈arr.toList,u.oneCell'=true/\u.cells= #[u])(hrl:i.real=true:=by rfl):
  Le w ρ O (w.alloc (.cells arr t)) (aH ρ i (some (.slice (some ⟨w.heap.size,0,none⟩) 1 1))) (aH O i (some w.heap.size))/\
  HS c (w.alloc (.cells arr t)) (aH h i (some (.arr cs))) (aH ρ i (some (.slice (some ⟨w.heap.size,0,none⟩) 1 1))) (aH O i (some w.heap.size)):=by
 have le:=Le.alloc hs hrl a (.cells arr t) (.slice (some ⟨w.heap.size,0,none⟩) 1 1) (some w.heap.size) (.inr rfl);refine⟨le,hs.alloc hrl a _ _ _ (.inr rfl) _ ⟨w.heap.size,arr,t,by simp,by simp,jh _, ?_,d⟩⟩;exact az.mono (λb e=>le.A b e) le.dU _ _ f
theorem CR{u:Value}{x:T}(e:mI u=some x):ay w A x u:=by
 cases u <;> simp only [mI,M1,reduceCtorEq] at e
 case slice a l b=>split at e <;> simp_all;subst e;simp [ay]
 case pointer a=>split at e <;> simp_all;subst e;simp [ay]
 case map a=>split at e <;> simp_all;subst e;simp [ay]
 all_goals (subst e;simp [ay])
theorem mJ:∀{us:List Value} {l:List T},jL us=some l->aR w A l us
 | [],l,e=>by simp only [jL,M1] at e;subst e;rfl
 | u::us,l,e=>by simp only [jL] at e;obtain⟨x,a,e⟩:=M2.1 e;obtain⟨d,b,e⟩:=M2.1 e;simp only [M1] at e;subst e;exact⟨u,us,rfl,CR a,mJ b⟩
theorem lW{t:TypeId}{l:List T}(e:gz P t=some l):∃i z,P.info? t=some i/\i.zero=some z/\jL z.cells.toList=some l:=by
 unfold gz at e;split at e
 .rename_i i a;split at e
  .rename_i z b;exact⟨i,z,a,b,e⟩
  .simp at e
 .simp at e
theorem HT(off:Nat)(v cells:Array Value)(d:off+v.size<=cells.size):(v.zipIdx.foldl (λcs (x:Value×Nat)=>cs.setIfInBounds (off+x.2) x.1) cells).toList=cm off v.toList cells.toList:=by
 obtain⟨f,b⟩:=Go.Great.foldl_set off v.toList 0 cells;have e:v.zipIdx.foldl (λcs (x:Value×Nat)=>cs.setIfInBounds (off+x.2) x.1) cells= (v.toList.zipIdx 0).foldl (λcs (x:Value×Nat)=>cs.setIfInBounds (off+x.2) x.1) cells:=by rw [<-Array.foldl_toList,Array.toList_zipIdx]
 rw [e];apply Oq;intro p;rw [NU,b p,pJ off v.toList cells.toList (by simpa using d)];simp only [Pa,NB,NU];by_cases a:off<=p/\p < off+v.size
 .rw [if_pos ⟨a.1,a.2,by omega⟩,if_pos a]
 .rw [if_neg (by omega),if_neg a]
inductive qk (w:World) (A:Nat->Prop) (ρ:Id->Option Value) (place:Nat->Option (Nat×Nat)):List (Nat×List AV)->List (Nat×Value)->Prop
 | nil:qk w A ρ place [] []
 | cons {off:Nat} {l:List AV} {f:Nat} {v:Value} {ls:List (Nat×List AV)} {vs:List (Nat×Value)} (hp:place f=some (off,l.length)) (hr:az w A ρ l v.cells.toList) (h1:∀u∈v.cells.toList,u.oneCell'=true/\u.cells= #[u])
   (rest:qk w A ρ place ls vs):qk w A ρ place ((off,l)::ls) ((f,v)::vs)
theorem Bb{a:Nat->Option (Nat×Nat)}:∀{j:List (Nat×List AV)} {vs:List (Nat×Value)} {i out:List AV} {cells:Array Value},qk w A ρ a j vs->qT j i=some out->az w A ρ i cells.toList->(∀u∈cells.toList,u.oneCell'=true/\u.cells= #[u])->
  ∃r,Instr.fill a cells vs=some r/\az w A ρ out r.toList/\∀u∈r.toList,u.oneCell'=true/\u.cells= #[u]
 | [],_,i,out,cells, .nil,hl,d,e=>by simp only [qT,M1] at hl;subst hl;exact⟨cells,rfl,d,e⟩
 | (off,l)::j,(f,v)::vs,i,out,cells, .cons y o n m,hl,d,e=>by
  simp only [qT] at hl;split at hl
  .rename_i t;have k:=o.length;have z:=d.length;simp only [NB] at k z;have g:off+v.cells.size<=cells.size:=by omega
   have b:=HT off v.cells cells g;obtain⟨r,p,q,e3⟩:=Bb (cells:=v.cells.zipIdx.foldl (λcs (x:Value×Nat)=>cs.setIfInBounds (off+x.2) x.1) cells) m hl (by
    rw [b];unfold cm;rw [show v.cells.toList.length=l.length by simpa using k];exact((d.take off).append o).append (d.drop _)) (by
    intro u hu;rw [b] at hu;simp only [cm,Nq] at hu;rcases hu with(hu | hu) | hu
    .exact e u (Pq hu)
    .exact n u hu
    .exact e u (Pr hu))
   refine⟨r, ?_,q,e3⟩;unfold Instr.fill;simp only [y];rw [if_neg (by simp [k];omega)];exact p
  .simp at hl
theorem C5{t:TypeId}{f:Nat}{p:Nat×TypeId}(e:rD P t f=some p)(k:oa P t=true):
  bW P p.2=true/\((∃a,P.underlying t=some (.struct a)/\(a.toList.map λx=>(x.offset,P.cellsOf x.type))[f]? =some (p.1,P.cellsOf p.2))\/
   ∃n e,P.underlying t=some (.array n e)/\p= (f * P.cellsOf e,e)):=by
 unfold rD at e;split at e
 .rename_i q g;simp only [M1] at e;subst e;obtain⟨a,x,b,d,i,j⟩:=wk g;refine⟨j, .inl ⟨a,b, ?_⟩⟩;rw [Ob,NU,d];simp [i]
 .split at e
  .rename_i n u g;simp only [M1] at e;subst e;obtain⟨b,d⟩:=yU g;exact⟨d, .inr ⟨n,u,b,rfl⟩⟩
  .simp at e
theorem C7{a:Act}{g:Option Gs}{t:TypeId}(hs:HS c w s.h ρ O)(n:SS w (AA c w O) ρ s.t a.tmps)(m:jc a.tmps g)(l:oa P t=true)(b:Nat->Option (Nat×Nat))
  (d:∀f p,rD P t f=some p->b f=some (p.1,P.cellsOf p.2)):
  ∀{k:List (Nat×Operand)} {j:List (Nat×List AV)},mM P t (s.get g) k=some j->qk w (AA c w O) ρ b j (k.map λx=>(x.1,a.eval x.2))
 | [],j,e=>by simp only [mM,M1] at e;subst e;exact .nil
 | (f,o)::k,j,e=>by
  simp only [mM] at e;obtain⟨p,v,e⟩:=M2.1 e;split at e
  .rename_i i;obtain⟨q,y,e⟩:=M2.1 e;simp only [M1] at e;subst e;have z:=SS.get (h:=s.h) n m o;obtain⟨r,u⟩:=sI hs z i.2;exact .cons (by rw [d f p v,show(St.get ⟨s.t,s.h⟩ g o)=s.get g o from rfl,i.1]) r u (C7 hs n m l b d y)
  .simp at e
theorem Fs{a:Act}{g:Option Gs}{t:TypeId}{o:Array (Nat×Operand)}{M:AV}(hs:HS c w s.h ρ O)(Y:SS w (AA c w O) ρ s.t a.tmps)(X:jc a.tmps g)(e:sG P t (s.get g) o.toList=some M):
  ∃v,(Instr.build t (o.map λ(i,x)=>(i,a.eval x))).run P w= .ok v w/\ai w (AA c w O) ρ M v:=by
 unfold sG at e;split at e
 .rename_i b;obtain⟨z,Z,e⟩:=M2.1 e;obtain⟨l,hl,e⟩:=M2.1 e;obtain⟨cs,Q,e⟩:=M2.1 e;simp only [M1] at e;subst e;obtain⟨i,zv,D,G,S⟩:=lW Z;have F:aR w (AA c w O) z zv.cells.toList:=mJ S;have V:(o.map λ(i,x)=>(i,a.eval x)).toList=o.toList.map λx=>(x.1,a.eval x.2):=by simp
  have key:∀j:Nat->Option (Nat×Nat),(∀f p,rD P t f=some p->j f=some (p.1,P.cellsOf p.2))->∃r,Instr.fill j zv.cells (o.map λ(i,x)=>(i,a.eval x)).toList=some r/\az w (AA c w O) ρ cs r.toList/\∀u∈r.toList,u.oneCell'=true/\u.cells= #[u]:=by intro j y;rw [V];exact Bb (C7 hs Y X b j y hl) Q (az.jM F) F.one
  have E:∀r:Array Value,P.built t (o.map λ(i,x)=>(i,a.eval x)).toList=some r->az w (AA c w O) ρ cs r.toList->(∀u∈r.toList,u.oneCell'=true/\u.cells= #[u])->
    ∃v,(Instr.build t (o.map λ(i,x)=>(i,a.eval x))).run P w= .ok v w/\ai w (AA c w O) ρ (.agg cs) v:=by
   intro r W m J;exact⟨_,run_build w t _ r W,by simp only [ai];exact⟨r.toList,by simp,m,J⟩⟩
  cases k:P.underlying t with
  | none=>simp [oa,k] at b
  | some d=>
   cases d <;> simp only [oa,k,NA] at b
   case struct C=>
    have q:C.toList.mapM (λf=>(P.info? f.type).map λi=>(f.offset,i.size))=some (C.toList.map λx=>(x.offset,P.cellsOf x.type)):=by
     generalize C.toList=l at b;induction l with
     | nil=>rfl
     | cons f l ih=>simp only [Ot,M7] at b;obtain⟨d,K⟩:=Ou.1 b.1;obtain⟨i,D,B⟩:=tv K;simp only [Qb,D,OI,Option.bind_eq_bind,M6,ih b.2,Option.pure_def,NH,B]
    obtain⟨r,H,I,e3⟩:=key ((C.toList.map λx=>(x.offset,P.cellsOf x.type)).toArray[·]?) (λf p L=>by
     obtain⟨_,h | ⟨n,e,h,_⟩⟩:=C5 L (by simp [oa,k,b])
     .obtain⟨N,m,J⟩:=h;rw [k] at m;simp only [M1,TypeDesc.struct.injEq] at m;subst m;simpa using J
     .rw [k] at h;simp at h)
    refine E r ?_ I e3;simp only [Program.built,D,k,G,q];exact H
   case array n e=>
    obtain⟨d,K⟩:=Ou.1 b;obtain⟨U,R,B⟩:=tv K;obtain⟨r,H,I,e3⟩:=key (λi=>some (i * U.size,U.size)) (λf p L=>by
     obtain⟨_,⟨N,m,_⟩ | ⟨n',e',h,T⟩⟩:=C5 L (by simp [oa,k,b])
     .rw [k] at m;simp at m
     .rw [k] at h;simp only [M1,TypeDesc.array.injEq] at h;obtain⟨rfl,rfl⟩:=h;subst T;simp [B])
    refine E r ?_ I e3;simp only [Program.built,D,k,G,R];exact H
 .simp at e
end
open Go Go.IntKind
section
variable {P:Program} {w w':World} {A A':Nat->Prop} {c:Ctx} {ρ:Id->Option Value} {O:Id->Option Nat} {s:St} {cc:Option Bool} {h:Id->Option ab}
def cu(w:World)(A:Nat->Prop)(sz:Nat):List (List T)->List (List Value)->Prop
 | [],vss=>vss= []
 | cs::xs,vss=>∃vs r,vss=vs::r/\cs.length=sz/\aR w A cs vs/\cu w A sz xs r
theorem cu.mono{sz:Nat}(a:∀b,A b->A' b/\w'.heap[b]? =w.heap[b]?):∀{xs:List (List T)} {vss:List (List Value)},cu w A sz xs vss->cu w' A' sz xs vss
 | [],_,h=>h
 | cs::xs,vss,⟨vs,r,e,d,f,g⟩=>⟨vs,r,e,d,aR.mono a cs vs f,cu.mono a g⟩
theorem cu.length{sz:Nat}:∀{xs:List (List T)} {vss:List (List Value)},cu w A sz xs vss->vss.length=xs.length/\vss.flatten.length=xs.length * sz
 | [],vss,h=>by simp only [cu] at h;subst h;simp
 | cs::xs,vss,⟨vs,r,e,d,f,g⟩=>by subst e;obtain⟨a,b⟩:=cu.length g;have:=f.length;refine⟨by simp [a], ?_⟩;simp only [OH,N6,b,this,d,Nf,NY];omega
theorem cu.one{sz:Nat}:∀{xs:List (List T)} {vss:List (List Value)},cu w A sz xs vss->∀u∈vss.flatten,u.oneCell'=true/\u.cells= #[u]
 | [],vss,h,u,hu=>by simp only [cu] at h;subst h;simp at hu
 | cs::xs,vss,⟨vs,r,e,d,a,b⟩,u,hu=>by
  subst e;simp only [OH,Nq] at hu;rcases hu with hu | hu
  .exact a.one u hu
  .exact cu.one b u hu
theorem cu.append{sz:Nat}:∀{xs d:List (List T)} {vss a:List (List Value)},cu w A sz xs vss->cu w A sz d a->cu w A sz (xs++d) (vss++a)
 | [],_,vss,_,h,b=>by simp only [cu] at h;subst h;simpa using b
 | cs::xs,d,vss,a,⟨vs,r,e,f,g,i⟩,b=>by subst e;exact⟨vs,r++a,rfl,f,g,cu.append i b⟩
theorem bd.bh{ae sz:Nat}:∀{off:Nat} {xs:List (List T)},bd w A ae sz off xs->∃vss,cu w A sz xs vss/\∀p v,vss.flatten[p]? =some v->w.cell? ⟨ae,off+p,none⟩=some v
 | _,[],_=>⟨[],rfl,by simp⟩
 | off,cs::xs,h=>by
  simp only [bd] at h;obtain⟨vs,b,d⟩:=h.2.1.bh;obtain⟨r,e,f⟩:=bd.bh h.2.2;refine⟨vs::r,⟨vs,r,rfl,h.1,b,e⟩,λp v a=> ?_⟩;have hl:=b.length;rw [h.1] at hl;rw [OH] at a;by_cases g:p < sz
  .rw [Nu (by omega)] at a;exact d p v a
  .rw [NI (by omega),hl] at a;have:=f _ v a;rw [show off+sz+ (p - sz)=off+p by omega] at this;exact this
theorem bd.jq{ae sz:Nat}:∀{off:Nat} {xs:List (List T)} {vss:List (List Value)},cu w A sz xs vss->(∀p v,vss.flatten[p]? =some v->w.cell? ⟨ae,off+p,none⟩=some v)->bd w A ae sz off xs
 | _,[],_,_,_=>by simp [bd]
 | off,cs::xs,vss,⟨vs,r,e,a,b,g⟩,f=>by
  subst e;have hl:=b.length;rw [a] at hl;simp only [bd];refine⟨a,aZ.jq b (λj v d=>f j v ?_),bd.jq g (λp v i=> ?_)⟩
  .rw [OH,Nu (M5.1 d).1];exact d
  .have:=f (sz+p) v (by rw [OH,NI (by omega),hl,show sz+p - sz=p by omega];exact i);rw [show off+sz+p=off+ (sz+p) by omega];exact this
theorem HS.tK{i:Id}(hs:HS c w h ρ O)(d:h i=none){xs:List (List T)}{vss:List (List Value)}{sz:Nat}(t:TypeId)(cells:Array Value)(cap:Nat)(j:cu w (AA c w O) sz xs vss)
  (f:∀(p:Nat) (v:Value),vss.flatten[p]? =some v->cells[p]? =some v) (a:xs.length<=cap) (k:cap * sz<=cells.size) (hrl:i.real=true:=by rfl):
  Le w ρ O (w.alloc (.cells cells t)) (aH ρ i (some (.slice (some ⟨w.heap.size,0,none⟩) xs.length cap))) (aH O i (some w.heap.size))/\
  HS c (w.alloc (.cells cells t)) (aH h i (some (.sl false sz false xs))) (aH ρ i (some (.slice (some ⟨w.heap.size,0,none⟩) xs.length cap))) (aH O i (some w.heap.size)):=by
 have le:=Le.alloc hs hrl d (.cells cells t) (.slice (some ⟨w.heap.size,0,none⟩) xs.length cap) (some w.heap.size) (.inr rfl);refine⟨le,hs.alloc hrl d _ _ _ (.inr rfl) _ ⟨_,by rw [aC],⟨some ⟨w.heap.size,0,none⟩,cap,rfl,a,by simp,trivial, .inr ⟨w.heap.size,0,cells,t,rfl,by simp,jh _,by omega, ?_⟩⟩,by simp⟩⟩;refine bd.jq (cu.mono (λb e=>le.A b e) j) (λp v g=> ?_);rw [je (jh _),NF];exact f p v g
theorem AT{a:Act}{g:Option Gs}{e:TypeId}(hs:HS c w s.h ρ O)(D:SS w (AA c w O) ρ s.t a.tmps)(C:jc a.tmps g){O':Id->Option Nat}(le:Le w ρ O w ρ O')(m:∀i,O' i=O i\/O' i=none):
  ∀{y:List (Nat×Operand)} {n:Nat} {q:List (List T)×aE},gh P s.h e (s.get g) n y=some q->(∀p∈q.2,O' p.1=none)->
   ∃vs:List Value,(y.map λx=>(x.1,a.eval x.2))= ((vs.zipIdx n).map λx=>(x.2,x.1))/\cu w (AA c w O') (P.cellsOf e) q.1 (vs.map λv=>v.cells.toList)/\(∀v∈vs,v.cells.size=P.cellsOf e)
 | [],n,q,b,_=>by simp only [gh,M1] at b;subst b;exact⟨[],rfl,by simp [cu],by simp⟩
 | (k,o)::y,n,q,b,r=>by
  simp only [gh] at b;obtain⟨l,hl,b⟩:=M2.1 b;split at b
  .rename_i j;obtain⟨rfl,d⟩:=j;obtain⟨J,B,b⟩:=M2.1 b;simp only [M1] at b;subst b;simp only [Nq] at r;obtain⟨vs,E,F,e3⟩:=AT hs D C le m B (λp u=>r p (.inr u));have H:=SS.get (h:=s.h) D C o;obtain⟨z,I⟩:=yd hs H hl le m (λp u=>r p (.inl u));have G:=z.length;refine⟨a.eval o::vs, ?_,⟨_,_,rfl,d,z,F⟩, ?_⟩
   .simp only [NH,List.zipIdx_cons,E]
   .intro v f;rcases Nj.1 f with rfl | f
    .rw [<-NB,G,d]
    .exact e3 v f
  .simp at b
theorem AS{e:TypeId}{ev:Operand->AV}:∀{b:List (Nat×Operand)} {n:Nat} {q:List (List T)×aE},gh P h e ev n b=some q->fA h q.2/\q.1.length=b.length
 | [],n,q,a=>by simp only [gh,M1] at a;subst a;exact⟨(λp i=>by cases i),rfl⟩
 | (k,o)::b,n,q,a=>by
  simp only [gh] at a;obtain⟨l,hl,a⟩:=M2.1 a;split at a
  .obtain⟨j,d,a⟩:=M2.1 a;simp only [M1] at a;subst a;obtain⟨f,g⟩:=AS d;exact⟨(wA _).append f,by simp [g]⟩
  .simp at a
theorem uo{t e:TypeId}{n:Nat}(u:P.underlying t=some (.slice e))(l:bW P e=true)(d:(gz P e).isSome=true)(b: 0 < P.cellsOf e)(g:n<=1000/\P.cellsOf e<=1000)(vs:List Value)(y:∀v∈vs,v.cells.size=P.cellsOf e)(j:vs.length=n)
  (o:Array (Nat×Value)) (a:o.toList= (vs.zipIdx 0).map λx=>(x.2,x.1)):
  (Instr.buildSlice t n o).run P w= .ok (.slice (some ⟨w.heap.size,0,none⟩) n n) (w.alloc (.cells (vs.flatMap λv=>v.cells.toList).toArray e)):=by
 obtain⟨z,d⟩:=Ou.1 d;obtain⟨i,zv,r,m,_⟩:=lW d;have B:n * P.cellsOf e<=1000 * 1000:=Qc g.1 g.2;have q:¬(n * P.cellsOf e > 2 ^ 24):=by
  have f:(2:Nat) ^ 24=16777216:=by decide
  rw [f];omega
 have p:=Go.Great.fill_whole b vs;unfold Instr.buildSlice;simp only [Nv,run_underlying u,Ni,gW l,if_neg q,Sem.run_ite];by_cases h0:n * P.cellsOf e=0
 .have k:n=0:=by rcases Nat.mul_eq_zero.1 h0 with e | e <;> omega
  subst k;have:vs= []:=Ny.1 j;subst this;simp only [Nat.zero_mul,if_true,NJ,Ni];simp only [List.zipIdx_nil,Oe] at a;simp [a,Instr.fill,newRow,Array.range_zero']
 .simp only [if_neg h0,Nv,zeroValue,typeInfo,run_program,Ni,r,NJ,m];rw [a,p _ y (by simp [j])];simp [newRow]
theorem DO{t e:TypeId}{b:List T}{n m:Int}{kn km:IntKind}(u:P.underlying t=some (.slice e))(v:gz P e=some b)(q:P.bytesOf e<=8192)(r:b.length=P.cellsOf e)(h0: 0<=n)(p:n<=m)(f:m<=kA):
  ∃zv:Value,aR w A b zv.cells.toList/\(Instr.makeSlice t (.int kn n) (.int km m)).run P w= .ok (.slice (some ⟨w.heap.size,0,none⟩) n.toNat m.toNat) (w.alloc (.cells (madeCells zv.cells (m.toNat * P.cellsOf e)) e)):=by
 obtain⟨i,zv,a,l,j⟩:=lW v;have k:P.cellsOf e=i.size:=by simp [Program.cellsOf,a]
 have g:P.bytesOf e=i.bytes:=by simp [Program.bytesOf,a]
 refine⟨zv,mJ j, ?_⟩;rw [k];refine run_make w t e i zv u a l kn km n m h0 p ?_ ?_
 .rw [g] at q;have:(i.bytes:Int) * m<=8192 * 4294967296:=by
   have o:(i.bytes:Int)<=8192:=by omega
   have d:m<=4294967296:=by simpa [kA] using f
   calc (i.bytes:Int) * m<=8192 * m:=PQ o (by omega)
    _<=8192 * 4294967296:=PV d (by omega)
  omega
 .have d:m<=4294967296:=by simpa [kA] using f
  omega
theorem w8{zv:Array Value}{sz:Nat}(b:zv.size=sz)(n m:Nat)(i:n<=m):∀(p:Nat) (v:Value),(List.replicate n zv.toList).flatten[p]? =some v->(madeCells zv (m * sz))[p]? =some v:=by
 intro p v a;have d:p < n * sz:=by have:=(M5.1 a).1;simpa [b] using this
 have g: 0 < sz:=by
  rcases Nat.eq_zero_or_pos sz with e | e
  .rw [e] at d;simp at d
  .exact e
 have hm:n * sz<=m * sz:=NX _ i;have key:∀n p,p < n * sz->(List.replicate n zv.toList).flatten[p]? =zv[p % sz]?:=by
  intro n;induction n with
  | zero=>intro p h;simp at h
  | succ n j=>
   intro p h;rw [Om,OH];by_cases a:p < sz
   .rw [Nu (by simpa [b] using a),Nat.mod_eq_of_lt a];simp
   .rw [NI (by simp [b];omega)];simp only [NB,b];have k:(n+1) * sz=n * sz+sz:=NY _ _;rw [j _ (by omega)];congr 1;exact(Nat.mod_eq_sub_mod (by omega)).symm
 rw [key n p d] at a;have f:p % sz < zv.size:=by rw [b];exact Nat.mod_lt _ g
 simp only [madeCells,Array.getElem?_map];rw [OP (by simp;omega)];simp only [Array.getElem_range,OI,b];rw [OP f] at a;rw [getElem!_pos zv _ f];exact a
theorem cu.replicate{sz:Nat}{a:List T}{vs:List Value}(b:aR w A a vs)(hl:a.length=sz):∀n,cu w A sz (List.replicate n a) (List.replicate n vs)
 | 0=>rfl
 | n+1=>⟨vs,List.replicate n vs,rfl,hl,b,cu.replicate b hl n⟩
end
end Go.Aev
