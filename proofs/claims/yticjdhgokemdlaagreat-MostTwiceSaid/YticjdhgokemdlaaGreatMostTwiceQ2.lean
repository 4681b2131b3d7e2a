import Derived.Test.YticjdhgokemdlaaGreatMostTwiceQ1
import Derived.ChangeKeysEq
import Derived.Deep.AppendSrc
import Derived.Great.FillDense
set_option linter.all false
namespace Go.Aev
open Go Go.IntKind
section
variable {P:Program} {w:World} {A:Nat->Prop}
theorem T.gA{k:IntKind}{x:T}{n:Int}(h:x.int? k=some n):x= .int k n:=by cases x <;> simp only [T.int?,reduceCtorEq] at h;split at h <;> simp_all
theorem T.jf{x:T}{b:Bool}(h:x.bool? =some b):x= .bool b:=by cases x <;> simp_all [T.bool?]
theorem T.kK{x:T}{s:ByteArray}(h:x.bC =some s):x= .str s:=by cases x <;> simp_all [T.bC]
theorem T.zP{x:T}{cs:List T}(h:x.qY =some cs):x= .ptr cs:=by cases x <;> simp_all [T.qY]
theorem T.qQ{sz:Nat}{x:T}{p:Bool×List (List T)}(h:x.aQ sz=some p):x= .aa sz p.1 p.2\/(x= .aK p.1/\p.2= []):=by
 cases x <;> simp only [T.aQ,reduceCtorEq,U7] at h
 case aa a b xs=>split at h <;> simp_all;subst h;simp
 case aK b=>subst h;simp
theorem Qn{w:World}{A:Nat->Prop}{y:T}{v:Value}(h:zr y=true)(a:aB w A y v):v= .slice none 0 0:=by
 unfold zr at h;split at h
 .simp only [aB] at a;rcases a with⟨_,h⟩ | ⟨h,_⟩
  .exact h
  .cases h
 .simp only [aB] at a;rcases a with⟨_,_,h⟩ | ⟨h,_⟩
  .exact h
  .cases h
 .cases h
theorem AV.mB{v:AV}{x:T}(h:v.t? =some x):v= .t x:=by cases v <;> simp_all [AV.t?]
theorem qJ{d R:Type}[Inhabited d]{c:Option Bool}{m:Option d}{k:d->Option R}{r:R}(h:ae c m k=some r):
  ∃a,k a=some r/\(m=some a\/(m=none/\c=some false)):=by
 unfold ae at h;cases m with
 | some a=>exact⟨a,h, .inl rfl⟩
 | none=>cases c with
  | none=>simp at h
  | some b=>cases b with
   | true=>simp at h
   | false=>exact⟨_,h, .inr ⟨rfl,rfl⟩⟩
def uB(P:Program)(R:Value->World->Prop):Result Next->Prop
 | .ok (.value x) w'=>R x w'
 | .ok .skip w'=>R undef w'
 | .ok (.enter f args) w'=>Calls P f args w' λe a=>∃x,e= .returned x/\R x a
 | _=>False
def ja(P:Program)(o:Oper)(a:Act)(w:World)(R:Value->World->Prop):Prop:=uB P R ((execOp a.eval o).run P w)
theorem ja.mono{o:Oper}{a:Act}{R b:Value->World->Prop}(h:ja P o a w R)(d:∀x w',R x w'->b x w'):ja P o a w b:=by
 unfold ja at *
 generalize (execOp a.eval o).run P w=r at *
 cases r with
 | ok n w'=>
  cases n <;> simp only [uB] at h⊢
  case enter=>exact h.mono λe g ⟨x,f,e2⟩=>⟨x,f,d _ _ e2⟩
  all_goals exact d _ _ h
 | halt x w'=>simp [uB] at h
theorem ja.wp{o:Oper}{a:Act}{R:Value->World->Prop}{K:Act->World->Prop}{Q:Exit->Act->World->Prop}(h:ja P o a w R)(b:∀x w',R x w'->K (a.put o.dst x) w'):o.wp P a w K Q:=by
 unfold ja at h;unfold Oper.wp;generalize (execOp a.eval o).run P w=r at *
 cases r with
 | ok n w'=>
  cases n <;> simp only [uB] at h <;> simp only [Oper.upon]
  case enter=>exact h.mono λe f ⟨x,d,e2⟩=>by subst d;exact b _ _ e2
  all_goals first | exact b _ _ h | exact h.elim
 | halt x w'=>simp [uB] at h
theorem zp{t:TypeId}{d:TypeDesc}(h:P.underlying t=some d):∃i,P.info? t=some i/\P.cellsOf t=i.size:=by
 unfold Program.underlying at h;cases hi:P.info? t with
 | none=>simp [hi] at h
 | some i=>exact⟨i,rfl,by simp [Program.cellsOf,hi]⟩
theorem jw{t:TypeId}(h:bV P t=true)(w:World):(sizeOf t).run P w= .ok (P.cellsOf t) w:=by unfold bV at h;obtain⟨d,a⟩:=Xq.1 h;obtain⟨i,hi,hs⟩:=zp a;rw [hs];simp [sizeOf,typeInfo,hi]
theorem tA{t:TypeId}(h:bV P t=true)(w:World):(isAgg t).run P w= .ok (bp P t) w:=by unfold bV at h;obtain⟨d,a⟩:=Xq.1 h;unfold isAgg bp;simp only [Vz,run_underlying a,Vm,a];cases d <;> rfl
theorem gM(k:IntKind)(n:Int)(w:World)(A:Nat->Prop):aB w A (.int k n) (.int k n):=by simp [aB]
theorem nY(b:Bool)(w:World)(A:Nat->Prop):aB w A (.bool b) (.bool b):=by simp [aB]
theorem mu(b:ByteArray)(w:World)(A:Nat->Prop):aB w A (.str b) (.string b):=by simp [aB]
theorem My{R:Type}{op:BinOp}{k:IntKind}{c:Option Bool}{x y:T}{K:T->Option R}{r:R}{t:TypeId}{j l:Value}(f:c=none\/c=some true)
  (i:aB w A x j) (hy:aB w A y l) (h:r8 op k c x y K=some r):
  ∃z m,K z=some r/\(∀w A,aB w A z m)/\(binOp op t j l).run P w= .ok m w:=by
 unfold r8 at h;replace h:=aO h f;obtain⟨a,n,h⟩:=h;replace h:=aO h f;obtain⟨b,hb,h⟩:=h;have:=T.gA n;subst this;have:=T.gA hb;subst this;simp only [aB] at i hy;subst i;subst hy;cases op <;> simp only [reduceCtorEq] at h
 case quo=>
  replace h:=aO h f;obtain⟨_,g,h⟩:=h;have d:b≠0:=by intro e;simp [e] at g
  exact⟨_,_,h,by first | exact gM _ _ | exact nY _ | exact mu _,by simp [binOp,Op.intDiv,d]⟩
 case rem=>
  replace h:=aO h f;obtain⟨_,g,h⟩:=h;have d:b≠0:=by intro e;simp [e] at g
  exact⟨_,_,h,by first | exact gM _ _ | exact nY _ | exact mu _,by simp [binOp,Op.intDiv,d]⟩
 all_goals exact⟨_,_,h,by first | exact gM _ _ | exact nY _ | exact mu _,by simp [binOp,Op.intArith,Op.intBits,Op.intCmp]⟩
theorem To{R:Type}{op:BinOp}{k ky:IntKind}{c:Option Bool}{x y:T}{K:T->Option R}{r:R}{t:TypeId}{i j:Value}(d:c=none\/c=some true)
  (g:aB w A x i) (hy:aB w A y j) (h:tC op k ky c x y K=some r):
  ∃z l,K z=some r/\(∀w A,aB w A z l)/\(binOp op t i j).run P w= .ok l w:=by
 unfold tC at h;replace h:=aO h d;obtain⟨a,n,h⟩:=h;replace h:=aO h d;obtain⟨b,hb,h⟩:=h;have:=T.gA n;subst this;have:=T.gA hb;subst this;simp only [aB] at g hy;subst g;subst hy;replace h:=aO h d;obtain⟨_,m,h⟩:=h;have f:¬b < 0:=by intro e;simp [e] at m
 cases op <;> simp only [reduceCtorEq] at h
 all_goals exact⟨_,_,h,by first | exact gM _ _ | exact nY _ | exact mu _,by simp [binOp,Op.shift,f]⟩
theorem TJ{R:Type}{op:BinOp}{c:Option Bool}{x y:T}{K:T->Option R}{r:R}{t:TypeId}{i j:Value}(d:c=none\/c=some true)
  (g:aB w A x i) (hy:aB w A y j) (h:tF op c x y K=some r):
  ∃z k,K z=some r/\(∀w A,aB w A z k)/\(binOp op t i j).run P w= .ok k w:=by
 unfold tF at h;replace h:=aO h d;obtain⟨a,m,h⟩:=h;replace h:=aO h d;obtain⟨b,hb,h⟩:=h;have:=T.kK m;subst this;have:=T.kK hb;subst this;simp only [aB] at g hy;subst g;subst hy;cases op <;> simp only [reduceCtorEq] at h
 case add=>
  replace h:=aO h d;obtain⟨_,l,h⟩:=h;have n:a.size+b.size<=4294967296:=by
   by_cases e:a.size+b.size<=4294967296
   .exact e
   .simp [e] at l
  have f:¬(((a.size+b.size:Nat):Int) > i64.max):=by
   have:i64.max=9223372036854775807:=by decide
   rw [this];omega
  exact⟨_,_,h,by first | exact gM _ _ | exact nY _ | exact mu _,by simp only [binOp,Op.stringOp,if_neg f];rfl⟩
 all_goals exact⟨_,_,h,by first | exact gM _ _ | exact nY _ | exact mu _,by simp [binOp,Op.stringOp]⟩
theorem MG{R:Type}{op:BinOp}{t ty:TypeId}{c:Option Bool}{x y:T}{K:T->Option R}{r:R}{d e:Value}(a:c=none\/c=some true)
  (b:aB w A x d) (hy:aB w A y e) (h:r9 P op t ty c x y K=some r):
  (op≠ .eql/\op≠ .neq)/\∃z f,K z=some r/\(∀w A,aB w A z f)/\(binOp op t d e).run P w= .ok f w:=by
 unfold r9 at h;cases op <;> simp only [reduceCtorEq] at h <;> refine⟨⟨by simp,by simp⟩, ?_⟩ <;> split at h <;> first | exact My a b hy h | exact To a b hy h | exact TJ a b hy h | simp at h
theorem UL{R:Type}{op:UnOp}{t:TypeId}{c:Option Bool}{x:T}{K:T->Option R}{r:R}{f:Value}(e:c=none\/c=some true)
  (b:aB w A x f) (h:tQ P op t c x K=some r):
  ∃z g,K z=some r/\(∀w A,aB w A z g)/\(Op.unary op f).run P w= .ok g w:=by
 unfold tQ at h;split at h
 .replace h:=aO h e;obtain⟨a,d,h⟩:=h;have:=T.gA d;subst this;simp only [aB] at b;subst b;exact⟨_,_,h,by first | exact gM _ _ | exact nY _ | exact mu _,by simp [Op.unary,Op.intArith]⟩
 .replace h:=aO h e;obtain⟨a,d,h⟩:=h;have:=T.gA d;subst this;simp only [aB] at b;subst b;exact⟨_,_,h,by first | exact gM _ _ | exact nY _ | exact mu _,by simp [Op.unary,Op.intBits]⟩
 .replace h:=aO h e;obtain⟨a,d,h⟩:=h;have:=T.jf d;subst this;simp only [aB] at b;subst b;exact⟨_,_,h,by first | exact gM _ _ | exact nY _ | exact mu _,by simp [Op.unary]⟩
 .simp at h
theorem Pu{R:Type}{d:Nat}{t:TypeId}{c:Option Bool}{x y:T}{K:Bool->Option R}{r:R}{j l:Value}(e:c=none\/c=some true)
  (f:aB w A x j) (hy:aB w A y l) (h:lZ P c t x y K=some r):∃b,K b=some r/\(Op.equalIn (d+1) t j l).run P w= .ok b w:=by
 unfold lZ at h;split at h
 .rename_i k i;replace h:=aO h e;obtain⟨a,g,h⟩:=h;replace h:=aO h e;obtain⟨b,hb,h⟩:=h;have:=T.gA g;subst this;have:=T.gA hb;subst this;simp only [aB] at f hy;subst f;subst hy;exact⟨_,h,by simp [Op.equalIn,run_underlying i]⟩
 .rename_i i;replace h:=aO h e;obtain⟨a,g,h⟩:=h;replace h:=aO h e;obtain⟨b,hb,h⟩:=h;have:=T.jf g;subst this;have:=T.jf hb;subst this;simp only [aB] at f hy;subst f;subst hy;exact⟨_,h,by simp [Op.equalIn,run_underlying i]⟩
 .rename_i i;replace h:=aO h e;obtain⟨a,g,h⟩:=h;replace h:=aO h e;obtain⟨b,hb,h⟩:=h;have:=T.kK g;subst this;have:=T.kK hb;subst this;simp only [aB] at f hy;subst f;subst hy;exact⟨_,h,by simp [Op.equalIn,run_underlying i]⟩
 .simp at h
theorem Cs{R:Type}{c:Option Bool}(d:List TypeId):∀(ts:List TypeId) (xs a:List T) (K:Bool->Option R),
  eN P c (ts++d) xs a K=eN P c ts (xs.take ts.length) (a.take ts.length) (λq=>eN P c d (xs.drop ts.length) (a.drop ts.length) λe=>K (q && e))
 | [],xs,a,K=>by simp [eN]
 | t::ts,[],a,K=>by simp [eN]
 | t::ts,x::xs,[],K=>by simp [eN]
 | t::ts,x::xs,y::a,K=>by simp only [Vf,Vy,YE,List.drop_succ_cons,eN];congr 1;funext b;rw [Cs d ts xs a];simp only [Bool.and_assoc]
theorem aR.take{cs:List T}{vs:List Value}(h:aR w A cs vs):∀n,aR w A (cs.take n) (vs.take n):=by
 intro n;induction n generalizing cs vs with
 | zero=>simp [aR]
 | succ n b=>
  cases cs with
  | nil=>simp only [aR] at h;subst h;simp [aR]
  | cons c cs=>obtain⟨v,r,rfl,h1,a⟩:=h;exact⟨v,r.take n,rfl,h1,b a⟩
theorem aR.drop{cs:List T}{vs:List Value}(h:aR w A cs vs):∀n,aR w A (cs.drop n) (vs.drop n):=by
 intro n;induction n generalizing cs vs with
 | zero=>simpa using h
 | succ n b=>
  cases cs with
  | nil=>simp only [aR] at h;subst h;simp [aR]
  | cons c cs=>obtain⟨v,r,rfl,h1,a⟩:=h;exact b a
end
open Go
section
variable {P:Program} {w:World} {A:Nat->Prop}
def kL(P:Program)(t:TypeId)(vs:List Value):Value:=if bp P t=true then .agg vs.toArray else vs.headD undef
theorem wh{t:TypeId}(b:bV P t=true)(xs:Array Value)(off:Nat)(h1:bp P t=false->P.cellsOf t=1)(d:off+P.cellsOf t<=xs.size)(w:World):
  (part t xs off).run P w= .ok (kL P t ((xs.toList.drop off).take (P.cellsOf t))) w:=by
 unfold part kL;simp only [Vz,tA b,Vm];cases hb:bp P t
 .simp only [VF,if_false];rw [h1 hb] at d⊢;have a:off < xs.size:=by omega
  have:xs[off]? =some xs[off]:=XG a;rw [this];have e:off < xs.toList.length:=by simpa using a
  rw [W5 e];simp
 .simp only [if_true,Vz,jw b,Vm,VQ];congr 2;apply XJ;simp [Yu,X1]
theorem aR.part{xs:List T}{vs:List Value}(h:aR w A xs vs)(off n:Nat):aR w A ((xs.drop off).take n) ((vs.drop off).take n):=(h.drop off).take n
theorem sH{R:Type}{c:Option Bool}(a:c=none\/c=some true):∀{ts:List TypeId} {xs d:List T} {K:Bool->Option R} {r:R},eN P c ts xs d K=some r->xs.length=ts.length/\d.length=ts.length
 | [],[],[],_,_,_=>⟨rfl,rfl⟩
 | t::ts,x::xs,y::d,K,r,h=>by
  simp only [eN] at h;have:∃b,eN P c ts xs d (λr=>K (b && r))=some r:=by
   unfold lZ at h;split at h
   .replace h:=aO h a;obtain⟨_,_,h⟩:=h;replace h:=aO h a;obtain⟨_,_,h⟩:=h;exact⟨_,h⟩
   .replace h:=aO h a;obtain⟨_,_,h⟩:=h;replace h:=aO h a;obtain⟨_,_,h⟩:=h;exact⟨_,h⟩
   .replace h:=aO h a;obtain⟨_,_,h⟩:=h;replace h:=aO h a;obtain⟨_,_,h⟩:=h;exact⟨_,h⟩
   .simp at h
  obtain⟨b,hb⟩:=this;obtain⟨h1,e⟩:=sH a hb;simp [h1,e]
 | [],[],_::_,_,_,h=>by simp [eN] at h
 | [],_::_,_,_,_,h=>by simp [eN] at h
 | _::_,[],_,_,_,h=>by simp [eN] at h
 | _::_,_::_,[],_,_,h=>by simp [eN] at h
theorem qH{n:Nat}{t:TypeId}{ts:List TypeId}(h:fM P n t=some ts):bV P t=true:=by
 cases n with
 | zero=>simp [fM] at h
 | succ n=>
  simp only [fM] at h;unfold bV;cases a:P.underlying t with
  | none=>simp [a] at h
  | some d=>rfl
theorem Ia{n:Nat}{t:TypeId}{ts:List TypeId}(h:fM P n t=some ts)(hb:bp P t=false):ts= [t]:=by
 cases n with
 | zero=>simp [fM] at h
 | succ n=>
  simp only [fM] at h;unfold bp at hb;cases a:P.underlying t with
  | none=>simp [a] at h
  | some d=>cases d <;> simp_all
def AJ(P:Program)(w:World)(A:Nat->Prop)(n:Nat):Prop:= ∀(t:TypeId) (ts:List TypeId),fM P n t=some ts->∀(d:Nat),n<=d->
 ∀(R:Type) (c:Option Bool),c=none\/c=some true->∀(xs f:List T) (a e:List Value) (K:Bool->Option R) (r:R),aR w A xs a->aR w A f e->eN P c ts xs f K=some r->
  ∃b,K b=some r/\(Op.equalIn d t (kL P t a) (kL P t e)).run P w= .ok b w
theorem HV{n d:Nat}(B:AJ P w A n)(z:n<=d){X Y:Array Value}{R:Type}{c:Option Bool}(j:c=none\/c=some true):
  ∀(g:List Field) (off:Nat) (ts:List TypeId),sP P (fM P n) g off=some ts->∀(xs o:List T) (K:Bool->Option R) (r:R),aR w A xs (X.toList.drop off)->aR w A o (Y.toList.drop off)->
   eN P c ts xs o K=some r->∃b,K b=some r/\(Op.eqFields d X Y g).run P w= .ok b w
 | [],off,ts,h,xs,o,K,r,m,hy,e=>by simp only [sP,U7] at h;subst h;obtain⟨h1,E⟩:=sH j e;have:=Vt.1 h1;subst this;have:=Vt.1 E;subst this;exact⟨true,by simpa [eN] using e,by simp [Op.eqFields]⟩
 | f::g,off,ts,h,xs,o,K,r,m,hy,e=>by
  simp only [sP] at h;by_cases k:f.offset=off/\f.name≠ "_"
  .rw [if_pos k] at h;cases a:fM P n f.type with
   | none=>simp [a] at h
   | some l=>
    simp only [a,Vj] at h;by_cases i:P.cellsOf f.type=l.length/\0 < l.length
    .rw [if_pos i] at h;obtain⟨hs,F⟩:=i;cases u:sP P (fM P n) g (off+l.length) with
     | none=>simp [u] at h
     | some q=>
      simp only [u,Vj,U7] at h;subst h;obtain⟨G,ly⟩:=sH j e;simp only [Ws] at G ly;rw [Cs] at e;obtain⟨v,x,D⟩:=B f.type l a d z R c j _ _ _ _ _ _ (m.take l.length) (hy.take l.length) e;have p:=m.drop l.length;have t:=hy.drop l.length;rw [Zl] at p t;obtain⟨C,y,e2⟩:=HV B z j g (off+l.length) q u _ _ _ _ p t x;have sx:=m.length;have H:=hy.length;simp only [Xd,VH] at sx H;have one:bp P f.type=false->P.cellsOf f.type=1:=λhb=>by rw [hs,Ia a hb];rfl
      refine⟨v && C,y, ?_⟩;simp only [Op.eqFields,ne_eq,k.2,not_false_eq_true,if_true,Vz];rw [k.1,wh (qH a) X off one (by rw [hs];omega) w];simp only [Vm];rw [wh (qH a) Y off one (by rw [hs];omega) w];simp only [Vm,hs,D];cases v
      .simp
      .simp [e2]
    .rw [if_neg i] at h;simp at h
  .rw [if_neg k] at h;simp at h
theorem HW{n d:Nat}(C:AJ P w A n)(B:n<=d){X Y:Array Value}{R:Type}{c:Option Bool}(j:c=none\/c=some true){e:TypeId}{l:List TypeId}(a:fM P n e=some l)(hs:P.cellsOf e=l.length):
  ∀(m k:Nat) (xs p:List T) (K:Bool->Option R) (r:R),aR w A xs (X.toList.drop (k * P.cellsOf e))->aR w A p (Y.toList.drop (k * P.cellsOf e))->
   eN P c (List.replicate m l).flatten xs p K=some r->∃b,K b=some r/\(Op.eqItems d e (P.cellsOf e) X Y (List.range' k m)).run P w= .ok b w
 | 0,k,xs,p,K,r,o,hy,f=>by obtain⟨h1,E⟩:=sH j f;have:=Vt.1 h1;subst this;have:=Vt.1 E;subst this;exact⟨true,by simpa [eN] using f,by simp [Op.eqItems]⟩
 | m+1,k,xs,p,K,r,o,hy,f=>by
  simp only [VX,Xx] at f;obtain⟨G,ly⟩:=sH j f;simp only [Ws] at G ly;rw [Cs] at f;obtain⟨i,z,g⟩:=C e l a d B R c j _ _ _ _ _ _ (o.take l.length) (hy.take l.length) f;have t:=o.drop l.length;have u:=hy.drop l.length;have F:k * P.cellsOf e+l.length= (k+1) * P.cellsOf e:=by rw [hs,Wm]
  rw [Zl,F] at t u;obtain⟨x,q,e2⟩:=HW C B j a hs m (k+1) _ _ _ _ t u z;have sx:=o.length;have D:=hy.length;simp only [Xd,VH] at sx D;have one:bp P e=false->P.cellsOf e=1:=λhb=>by rw [hs,Ia a hb];rfl
  by_cases y:l.length=0
  ·
   refine⟨i && x,q, ?_⟩;have v:bp P e=true:=by
    cases hb:bp P e
    .have:=one hb;omega
    .rfl
   have H:∀(Z:Array Value) (w:World),(part e Z (k * P.cellsOf e)).run P w= .ok (kL P e []) w:=by intro Z w;unfold part kL;simp only [Vz,tA (qH a),Vm,v,if_true,jw (qH a),VQ,hs,y];simp
   simp only [X6,Op.eqItems,Vz,H,Vm];rw [y] at g;simp only [X5] at g;rw [g];cases i
   .simp
   .simp [e2]
  .refine⟨i && x,q, ?_⟩;simp only [X6,Op.eqItems,Vz];rw [wh (qH a) X _ one (by rw [hs] at sx⊢;omega) w];simp only [Vm];rw [wh (qH a) Y _ one (by rw [hs] at D⊢;omega) w];simp only [Vm,hs];rw [hs] at g e2;simp only [g,Vm];cases i
   .simp
   .simp [e2]
theorem Cu:∀n,AJ P w A n
 | 0=>by intro t ts h;simp [fM] at h
 | n+1=>by
  intro t ts h d V R c k xs z S T K r C hy j;obtain⟨d,rfl⟩:∃M,d=M+1:=⟨d - 1,by omega⟩;have L:=Cu n;simp only [fM] at h;have a:bp P t=false->ts= [t]->∃b,K b=some r/\(Op.equalIn (d+1) t (kL P t S) (kL P t T)).run P w= .ok b w:=by
   intro hb J;subst J;obtain⟨D,ly⟩:=sH k j;cases xs with
   | nil=>simp at D
   | cons x xs=>cases z with
    | nil=>simp at ly
    | cons y z=>simp only [Vy,VS,VP,Nat.add_eq_right,Vt] at D ly;subst D;subst ly;obtain⟨v,q,rfl,h1,X⟩:=C;obtain⟨u,p,rfl,Q,W⟩:=hy;simp only [eN,Yb] at j;simpa [kL,hb] using Pu (d:=d) k h1 Q j
  cases f:P.underlying t with
  | none=>simp [f] at h
  | some N=>
   cases N <;> simp only [f,reduceCtorEq,U7] at h
   case int=>exact a (by simp [bp,f]) h.symm
   case bool=>exact a (by simp [bp,f]) h.symm
   case string=>exact a (by simp [bp,f]) h.symm
   case struct E=>
    split at h
    .simp at h
    .rename_i I;have g:bp P t=true:=by simp [bp,f]
     have G:P.underlying t=some (.struct (P.fieldsOf t)):=by simp [Program.fieldsOf,f]
     have H:P.fieldsOf t=E:=by simp [Program.fieldsOf,f]
     simp only [kL,g,if_true];rw [run_equalIn_struct w d t _ _ G (by simpa using I),H];exact HV L (by omega) k E.toList 0 ts h xs z K r (by simpa using C) (by simpa using hy) j
   case array m e=>
    cases o:fM P n e with
    | none=>simp [o] at h
    | some l=>
     simp only [o,Vj] at h;split at h
     .rename_i hs;simp only [U7] at h;subst h;have g:bp P t=true:=by simp [bp,f]
      have B:=qH o;unfold bV at B;obtain⟨U,F⟩:=Xq.1 B;obtain⟨i,hi,_⟩:=zp F;simp only [kL,g,if_true];rw [run_equalIn_array w d _ _ f hi,Yv];exact HW L (by omega) k o hs m 0 xs z K r (by simpa using C) (by simpa using hy) j
     .simp at h
theorem HQ{R:Type}{ρ:Id->Option Value}{t:TypeId}{c:Option Bool}{x y:AV}{K:Bool->Option R}{r:R}{q u:Value}(i:c=none\/c=some true)
  (f:an w A ρ x q) (hy:an w A ρ y u) (h:qD P c t x y K=some r) (v z:Operand):
  ∃b,K b=some r/\((eqGuard .eql t v z q u).run P w= .ok () w/\(binOp .eql t q u).run P w= .ok (.bool b) w)/\((eqGuard .neq t v z q u).run P w= .ok () w/\(binOp .neq t q u).run P w= .ok (.bool (!b)) w):=by
 unfold qD at h;split at h
 .rename_i x y;simp only [an] at f hy;cases n:CV P t
  .simp only [n,cond_false] at h;have d:=h;unfold lZ at d;split at d
   .rename_i k p;replace d:=aO d i;obtain⟨a,m,d⟩:=d;replace d:=aO d i;obtain⟨b,hb,d⟩:=d;have:=T.gA m;subst this;have:=T.gA hb;subst this;simp only [aB] at f hy;subst f;subst hy;exact⟨_,d,⟨by simp [eqGuard],by simp [binOp,Op.intCmp]⟩,⟨by simp [eqGuard],by simp [binOp,Op.intCmp,bne]⟩⟩
   .rename_i p;replace d:=aO d i;obtain⟨a,m,d⟩:=d;replace d:=aO d i;obtain⟨b,hb,d⟩:=d;have:=T.jf m;subst this;have:=T.jf hb;subst this;simp only [aB] at f hy;subst f;subst hy;exact⟨_,d,⟨by simp [eqGuard],run_eql_bool w t a b p⟩,⟨by simp [eqGuard],run_neq_bool w t a b p⟩⟩
   .rename_i p;simp [CV,p] at n
   .simp at d
  .simp only [n,cond_true] at h;replace h:=aO h i;obtain⟨a,m,h⟩:=h;replace h:=aO h i;obtain⟨b,hb,h⟩:=h;have:=T.kK m;subst this;have:=T.kK hb;subst this;simp only [aB] at f hy;subst f;subst hy;exact⟨_,h,⟨by simp [eqGuard],by simp [binOp,Op.stringOp]⟩,⟨by simp [eqGuard],by simp [binOp,Op.stringOp]⟩⟩
 .rename_i xs H;cases j:(P.eqGuardType P.depth t || !bp P t)
  .simp only [j,cond_false] at h;simp only [YZ,Bool.not_eq_false'] at j;obtain⟨j,C⟩:=j;cases g:ff xs with
   | none=>simp [g] at h
   | some D=>
    cases l:ff H with
    | none=>simp [g,l] at h
    | some E=>
     cases o:fM P 8 t with
     | none=>simp [g,l,o] at h
     | some ts=>simp only [g,l,o,Vj] at h;simp only [an] at f hy;obtain⟨F,rfl,f,_⟩:=f;obtain⟨G,rfl,hy,_⟩:=hy;have B:bp P t=true:=C;obtain⟨b,hb,e⟩:=Cu 8 t ts o 10000 (by omega) R c i D E F G K r (aR.mj g f) (aR.mj l hy) h;simp only [kL,B,if_true] at e;exact⟨b,hb,⟨run_eqGuard_agg w .eql t v z _ _ j,by rw [run_eql_struct,e];rfl⟩,⟨run_eqGuard_agg w .neq t v z _ _ j,by rw [run_neq_struct,e];rfl⟩⟩
  .simp [j] at h
 .simp at h
end
open Go
section
variable {P:Program} {w w':World} {A A':Nat->Prop} {c:Ctx} {ρ:Id->Option Value} {O:Id->Option Nat} {s:St} {cc:Option Bool}
theorem hZ(b o j:Nat):(⟨b,o,none⟩:Addr).add j= ⟨b,o+j,none⟩:=by
 unfold Addr.add;split
 .rename_i h;subst h;rfl
 .rfl
theorem aX.bg{ah:Nat}:∀{off:Nat} {cs:List T},aX w A ah off cs->∃vs,aR w A cs vs/\∀j v,vs[j]? =some v->w.cell? ⟨ah,off+j,none⟩=some v
 | _,[],_=>⟨[],rfl,by simp⟩
 | off,x::cs,h=>by
  simp only [aX] at h;obtain⟨⟨v,hv,g⟩,b⟩:=h;obtain⟨vs,d,f⟩:=aX.bg b;refine⟨v::vs,⟨v,vs,rfl,g,d⟩, ?_⟩;intro j u a;cases j with
  | zero=>simp at a;subst a;exact hv
  | succ j=>
   have:=f j u (by simpa using a);have e:off+1+j=off+ (j+1):=by omega
   rw [e] at this;exact this
theorem aR.one:∀{cs:List T} {vs:List Value},aR w A cs vs->∀u∈vs,u.oneCell'=true/\u.cells= #[u]
 | [],vs,h,u,hu=>by simp only [aR] at h;subst h;cases hu
 | x::cs,vs,⟨v,r,e,h1,a⟩,u,hu=>by
  subst e;rcases Vo.1 hu with rfl | hu
  .exact h1.qT
  .exact aR.one a u hu
theorem Ak{R:Type}(b:cc=none\/cc=some true):∀{n:Nat} {cs:List T} {K:List T->Option R} {r:R},pN cc n cs K=some r->∃l,l=cs.take n/\l.length=n/\K l=some r
 | 0,cs,K,r,h=>⟨[],by simp,rfl,h⟩
 | n+1,cs,K,r,h=>by
  simp only [pN] at h;replace h:=aO h b;obtain⟨x,a,h⟩:=h;obtain⟨l,h1,d,e⟩:=Ak b h;cases cs with
  | nil=>simp at a
  | cons y cs=>simp only [WU,U7] at a;subst a;exact⟨y::l,by simp [h1],by simp [d],e⟩
theorem Ey:∀{n:Nat} {cs l:List AV},oo n cs=some l->l=cs.take n/\l.length=n
 | 0,cs,l,h=>by simp only [oo,U7] at h;subst h;simp
 | n+1,[],l,h=>by simp [oo] at h
 | n+1,x::cs,l,h=>by
  simp only [oo] at h;cases a:oo n cs with
  | none=>simp [a] at h
  | some q=>simp only [a,Vj,U7] at h;subst h;obtain⟨h1,b⟩:=Ey a;exact⟨by simp [h1],by simp [b]⟩
theorem D7{t:TypeId}(a:bV P t=true)(hb:bp P t=true)(b off:Nat)(vs:List Value)(e:vs.length=P.cellsOf t)(h:∀j v,vs[j]? =some v->w.cell? ⟨b,off+j,none⟩=some v):
  (loadVar t ⟨b,off,none⟩).run P w= .ok (.agg vs.toArray) w:=by
 unfold loadVar;simp only [Vz,tA a,Vm,hb,if_true,jw a,<-e];rw [run_loadCells_list w ⟨b,off,none⟩ vs (λj v d=>by rw [hZ];exact h j v d)];rfl
theorem Aa{t:TypeId}(a:bV P t=true)(hb:bp P t=false)(b off:Nat)(v:Value)(h:w.cell? ⟨b,off,none⟩=some v):
  (loadVar t ⟨b,off,none⟩).run P w= .ok v w:=by
 unfold loadVar;simp only [Vz,tA a,Vm,hb,VF,if_false];rw [run_load,h]
theorem pQ{R:Type}{k:Ck}{x:T}{v:Value}{K:T->Option R}{r:R}(e:cc=none\/cc=some true)(a:aB w A x v)(h:ft k cc x K=some r):
  ∃y,K y=some r/\aB w A y v:=by
 unfold ft at h;cases k with
 | i k=>simp only at h;replace h:=aO h e;obtain⟨n,d,h⟩:=h;rw [T.gA d] at a;exact⟨_,h,a⟩
 | b=>simp only at h;replace h:=aO h e;obtain⟨n,d,h⟩:=h;rw [T.jf d] at a;exact⟨_,h,a⟩
 | s=>simp only at h;replace h:=aO h e;obtain⟨n,d,h⟩:=h;rw [T.kK d] at a;exact⟨_,h,a⟩
 | l sz=>
  simp only at h;replace h:=aO h e;obtain⟨p,j,h⟩:=h;refine⟨_,h, ?_⟩;rcases T.qQ j with rfl | ⟨rfl,g⟩
  .exact a
  .rw [g];simp only [aB] at a⊢;rcases a with⟨f,rfl⟩ | ⟨f,ah,off,m,rfl⟩
   .exact .inl ⟨f,trivial,rfl⟩
   .exact .inr ⟨f,ah,off,m,0,rfl,by simp, .inl trivial,trivial⟩
 | x=>exact⟨_,h,a⟩
theorem wJ{R:Type}(d:cc=none\/cc=some true):∀{ks:List Ck} {xs:List T} {vs:List Value} {K:List T->Option R} {r:R},aR w A xs vs->fc cc ks xs K=some r->
  ∃b,K b=some r/\aR w A b vs
 | [],xs,vs,K,r,a,h=>⟨_,h,a⟩
 | _::_,[],vs,K,r,a,h=>⟨_,h,a⟩
 | k::ks,x::xs,vs,K,r,a,h=>by obtain⟨v,q,rfl,h1,g⟩:=a;simp only [fc] at h;obtain⟨y,h,e⟩:=pQ d h1 h;obtain⟨b,h,f⟩:=wJ d g h;exact⟨_,h,⟨v,q,rfl,e,f⟩⟩
theorem TV{R:Type}{k:Ck}{x:T}{K:T->Option R}{r:R}(b:cc=none\/cc=some true)(h:ft k cc x K=some r):
  ∃y,K y=some r/\∀(w:World) (A:Nat->Prop) (v:Value),aB w A x v->aB w A y v:=by
 have e:ft k cc x K= (ft k cc x some).bind K:=by rw [ot];rfl
 rw [e] at h;obtain⟨y,hy,h⟩:=U8.1 h;refine⟨y,h,λw A v a=> ?_⟩;obtain⟨z,hz,a⟩:=pQ b a hy;simp only [U7] at hz;subst hz;exact a
theorem TW{R:Type}{ks:List Ck}{xs:List T}{K:List T->Option R}{r:R}(b:cc=none\/cc=some true)(h:fc cc ks xs K=some r):
  ∃y,K y=some r/\∀(w:World) (A:Nat->Prop) (vs:List Value),aR w A xs vs->aR w A y vs:=by
 have e:fc cc ks xs K= (fc cc ks xs some).bind K:=by rw [tM];rfl
 rw [e] at h;obtain⟨y,hy,h⟩:=U8.1 h;refine⟨y,h,λw A v a=> ?_⟩;obtain⟨z,hz,a⟩:=wJ b a hy;simp only [U7] at hz;subst hz;exact a
theorem TY{R:Type}{t:TypeId}{v:AV}{K:AV->Option R}{r:R}(b:cc=none\/cc=some true)(h:nh P cc t v K=some r):
  ∃y,K y=some r/\∀(w:World) (A:Nat->Prop) (ρ:Id->Option Value) (u:Value),an w A ρ v u->an w A ρ y u:=by
 unfold nh at h;split at h
 .obtain⟨y,h,g⟩:=TV b h;exact⟨_,h,λw A ρ u a=>by simp only [an] at a⊢;exact g w A u a⟩
 .rename_i vs;split at h
  .rename_i l i;obtain⟨y,h,g⟩:=TW b h;refine⟨_,h,λw A ρ u a=> ?_⟩;simp only [an] at a⊢;obtain⟨d,e,h1,f⟩:=a;exact⟨d,e,aC.mn (g w A d (aR.mj i h1)),f⟩
  .exact⟨_,h,λw A ρ u a=>a⟩
 .exact⟨_,h,λw A ρ u a=>a⟩
theorem Aq{R:Type}(b:cc=none\/cc=some true):∀{ts:List TypeId} {vs:List AV} {K:List AV->Option R} {r:R},jB P cc ts vs K=some r->
  ∃y,K y=some r/\∀(w:World) (A:Nat->Prop) (ρ:Id->Option Value) (us:List Value),aC w A ρ vs us->aC w A ρ y us
 | [],vs,K,r,h=>⟨_,h,λw A ρ u a=>a⟩
 | _::_,[],K,r,h=>⟨_,h,λw A ρ u a=>a⟩
 | t::ts,v::vs,K,r,h=>by simp only [jB] at h;obtain⟨y,h,d⟩:=TY b h;obtain⟨i,h,f⟩:=Aq b h;refine⟨_,h,λw A ρ us a=> ?_⟩;simp only [aC] at a⊢;obtain⟨u,q,e,h1,g⟩:=a;exact⟨u,q,e,d w A ρ u h1,f w A ρ q g⟩
theorem zA{R:Type}{t:TypeId}(i:bV P t=true){b off:Nat}{cs:List T}{K:AV->Option R}{r:R}(d:cc=none\/cc=some true)(p:aX w A b off cs)(h:lh P t cc cs K=some r):
  ∃av v,K av=some r/\(loadVar t ⟨b,off,none⟩).run P w= .ok v w/\an w A ρ av v:=by
 obtain⟨vs,h1,g⟩:=p.bg;unfold lh at h;cases hb:bp P t
 .simp only [hb,cond_false] at h;replace h:=aO h d;obtain⟨x,f,h⟩:=h;cases cs with
  | nil=>simp at f
  | cons y cs=>simp only [WU,U7] at f;subst f;obtain⟨v,q,rfl,a,_⟩:=h1;obtain⟨z,h,a⟩:=pQ d a h;exact⟨_,v,h,Aa i hb b off v (by simpa using g 0 v rfl),by simpa [an] using a⟩
 .simp only [hb,cond_true] at h;obtain⟨l,n,o,h⟩:=Ak d h;have a:=h1.take (P.cellsOf t);rw [<-n] at a;have k:=a.length;obtain⟨u,h,m⟩:=wJ d a h;refine⟨_,_,h,D7 i hb b off _ (by rw [k,o]) (λj v e=>g j v ?_), ?_⟩
  .rw [XT] at e;split at e
   .exact e
   .cases e
  .simp only [an];exact⟨_,rfl,aC.mn m,a.one⟩
theorem QH{R:Type}{t:TypeId}(i:bV P t=true){b off:Nat}{cs:List AV}{vs:List Value}{K:AV->Option R}{r:R}(f:aC w A ρ cs vs)(h1:∀u∈vs,u.oneCell'=true/\u.cells= #[u])
  (g:∀j v,vs[j]? =some v->w.cell? ⟨b,off+j,none⟩=some v) (h:nM P t cs K=some r):
  ∃av v,K av=some r/\(loadVar t ⟨b,off,none⟩).run P w= .ok v w/\an w A ρ av v:=by
 unfold nM at h;cases hb:bp P t
 .simp only [hb,cond_false] at h;cases cs with
  | nil=>simp at h
  | cons y cs=>simp only [WU,Vj] at h;simp only [aC] at f;obtain⟨v,q,rfl,a,_⟩:=f;exact⟨_,v,h,Aa i hb b off v (by simpa using g 0 v rfl),a⟩
 .simp only [hb,cond_true] at h;cases e:oo (P.cellsOf t) cs with
  | none=>simp [e] at h
  | some l=>
   simp only [e,Vj] at h;obtain⟨m,n⟩:=Ey e;have a:=f.take (P.cellsOf t);rw [<-m] at a;have k:=a.length;refine⟨_,_,h,D7 i hb b off _ (by rw [k,n]) (λj v d=>g j v ?_), ?_⟩
   .rw [XT] at d;split at d
    .exact d
    .cases d
   .simp only [an];exact⟨_,rfl,a,λu o=>h1 u (Xe o)⟩
theorem BE{i:Id}{cs:List AV}(hs:HS c w s.h ρ O)(hi:s.h i=some (.box cs)):∃b arr t,ρ i=some (.pointer (some ⟨b,0,none⟩))/\O i=some b/\w.heap[b]? =some (.cells arr t (0,0))/\
  aC w (AA c w O) ρ cs arr.toList/\(∀u∈arr.toList,u.oneCell'=true/\u.cells= #[u])/\∀j v,arr.toList[j]? =some v->w.cell? ⟨b,j,none⟩=some v:=by
 obtain⟨b,arr,t,h1,d,a,e,f⟩:=hs.ah i _ hi;refine⟨b,arr,t,h1,d,a,e,f,λj v g=> ?_⟩;simp only [World.cell?,a];simpa using g
theorem ru{i:Id}{a b:Bool}{sz:Nat}{l:List (List T)}(hs:HS c w s.h ρ O)(hi:s.h i=some (.sl a sz b l)):∃v,ρ i=some v/\cT w (AA c w O) sz b l v (λah=>if a=true then AA c w O ah else O i=some ah):=by obtain⟨v,h1,d,_⟩:=hs.ah i _ hi;exact⟨v,h1,d⟩
theorem cr.get{i:Id}{ah sz aD rsz:Nat}:∀{es:List Row} {base k:Nat} {e:Row},cr w A ρ O i ah sz aD rsz base es->es[k]? =some e->jb w A ρ O i ah sz aD rsz (base+k * sz) e
 | [],_,_,_,_,h=>by simp at h
 | x::es,base,0,e,a,h=>by simp only [Xu,U7] at h;subst h;simpa using a.1
 | x::es,base,k+1,e,a,h=>by have:=cr.get a.2 (k:=k) (by simpa using h);rw [show base+ (k+1) * sz=base+sz+k * sz by rw [Wm];omega];exact this
theorem cr.own{i:Id}{ah sz aD rsz n:Nat}{p:Bool×List (List T)}:∀{es:List Row} {base:Nat},cr w A ρ O i ah sz aD rsz base es->bA n es=some p->∃v,ρ (.g i n)=some v/\cT w A rsz p.1 p.2 v (λb=>O (.g i n)=some b)
 | [],_,_,h=>by simp [bA] at h
 | e::es,base,f,h=>by
  unfold bA at h;split at h
  .rename_i j;obtain⟨_,_,_,v,_,d,a⟩:=f.1;rw [h] at a;rw [j] at d a;exact⟨v,d,a⟩
  .exact cr.own f.2 h
theorem z9{i:Id}{b:Bool}{sz aD rsz nx n:Nat}{es:List Row}{p:Bool×List (List T)}(hs:HS c w s.h ρ O)(hi:s.h i=some (.rows b sz aD rsz nx es))(e:bA n es=some p):
  ∃v,ρ (.g i n)=some v/\cT w (AA c w O) rsz p.1 p.2 v (λb=>O (.g i n)=some b):=by
 obtain⟨a,cap,h1,j,k,l,d⟩:=hs.ah i _ hi;rcases d with d | ⟨ah,off,arr,t,q1,m,o,q,f⟩
 .have:es= []:=Vt.1 (by omega);subst this;simp [bA] at e
 .exact f.own e
theorem D4{R:Type}{i:Id}{n:Nat}{K:Nat->Bool->List (List T)->Option R}{r:R}(hs:HS c w s.h ρ O)(d:cc=none\/cc=some true)(h:my s.h cc i n K=some r):
  ∃rsz b xs v,K rsz b xs=some r/\ρ (.g i n)=some v/\cT w (AA c w O) rsz b xs v (λah=>O (.g i n)=some ah):=by
 unfold my at h;split at h
 .rename_i hi;replace h:=aO h d;obtain⟨p,e,h⟩:=h;obtain⟨v,h1,a⟩:=z9 hs hi e;exact⟨_,_,_,v,h,h1,a⟩
 .cases h
theorem jb.bg{i:Id}{ah sz aD rsz base:Nat}{e:Row}(h:jb w A ρ O i ah sz aD rsz base e):∃vs:List Value,vs.length=sz/\(∀j v,vs[j]? =some v->w.cell? ⟨ah,base+j,none⟩=some v)/\
  (∀j x v,j≠aD->e.cs[j]? =some x->vs[j]? =some v->aB w A x v)/\∃v,vs[aD]? =some v/\ρ (.g i e.n)=some v:=by
 obtain⟨h1,t,l,v,m,y,D⟩:=h;have o:∀j,j < sz->∃u,w.cell? ⟨ah,base+j,none⟩=some u:=by
  intro j a;by_cases d:j=aD
  .subst d;exact⟨v,m⟩
  .obtain⟨u,g,_⟩:=l j (e.cs[j]'(by omega)) d (Vd _);exact⟨u,g⟩
 have get:∀j u,((List.range sz).map λj=>(w.cell? ⟨ah,base+j,none⟩).getD undef)[j]? =some u->w.cell? ⟨ah,base+j,none⟩=some u:=by intro j u a;rw [VZ] at a;obtain⟨k,b,a⟩:=XS.1 a;obtain⟨p,b⟩:=Vi.1 b;rw [XF] at b;subst b;obtain⟨C,q⟩:=o j (by simpa using p);rw [q] at a⊢;simpa using a
 refine⟨_,by simp,get,λj x u a B z=> ?_,v, ?_,y⟩
 .obtain⟨C,f,r⟩:=l j x a B;rw [get j u z] at f;cases f;exact r
 .rw [VZ,YF t];simp [m]
theorem aC.vN:∀{as:List AV} {vs:List Value},as.length=vs.length->(∀(j:Nat) (a:AV) (v:Value),as[j]? =some a->vs[j]? =some v->an w A ρ a v)->aC w A ρ as vs
 | [],[],_,_=>by simp [aC]
 | [],_::_,h,_=>by simp at h
 | _::_,[],h,_=>by simp at h
 | a::as,v::vs,h,b=>by simp only [aC];exact⟨v,vs,rfl,b 0 a v rfl rfl,aC.vN (by simpa using h) λj a v h1 d=>b (j+1) a v (by simpa using h1) (by simpa using d)⟩
theorem LM{R:Type}(o:cc=none\/cc=some true):∀{ks:List Ck} {xs:List T} {vs:List Value} {aD:Nat} {K:List T->Option R} {r:R},xs.length=vs.length->(∀(j:Nat) (x:T) (v:Value),j≠aD->xs[j]? =some x->vs[j]? =some v->aB w A x v)->
  (∀k,ks[aD]? =some k->k= .x)->fc cc ks xs K=some r->∃d,K d=some r/\d.length=vs.length/\∀j x v,j≠aD->d[j]? =some x->vs[j]? =some v->aB w A x v
 | [],xs,vs,aD,K,r,b,e,i,h=>⟨xs,h,b,e⟩
 | k::ks,[],vs,aD,K,r,b,e,i,h=>⟨[],h,b,by simp⟩
 | k::ks,x::xs,[],aD,K,r,b,e,i,h=>by simp at b
 | k::ks,x::xs,v::vs,0,K,r,b,e,i,h=>by
  simp only [fc] at h;have:k= .x:=i k rfl;subst this;simp only [ft] at h;have C:aR w A xs vs:=by
   have z:∀(xs:List T) (vs:List Value),xs.length=vs.length->(∀(j:Nat) (x:T) (v:Value),xs[j]? =some x->vs[j]? =some v->aB w A x v)->aR w A xs vs:=by
    intro xs;induction xs with
    | nil=>intro vs b _;cases vs;rfl;simp at b
    | cons x xs t=>
     intro vs b e;cases vs with
     | nil=>simp at b
     | cons v vs=>exact⟨v,vs,rfl,e 0 x v rfl rfl,t vs (by simpa using b) λj x v h1 f=>e (j+1) x v (by simpa using h1) (by simpa using f)⟩
   exact z xs vs (by simpa using b) λj x v h1 f=>e (j+1) x v (by omega) (by simpa using h1) (by simpa using f)
  obtain⟨d,h,g⟩:=wJ o C h;have gl:=g.length;refine⟨_,h,by simp;omega,λj y u p hy l=> ?_⟩;cases j with
  | zero=>exact(p rfl).elim
  | succ j=>
   simp only [Xv] at hy l;have:∀(d:List T) (vs:List Value) (j:Nat),aR w A d vs->d[j]? =some y->vs[j]? =some u->aB w A y u:=by
    intro d;induction d with
    | nil=>intro vs j _ h;simp at h
    | cons a d t=>
     rintro vs j ⟨E,q,rfl,m,n⟩ h1 f;cases j with
     | zero=>simp at h1 f;subst h1;subst f;exact m
     | succ j=>exact t q j n (by simpa using h1) (by simpa using f)
   exact this d vs j g hy l
 | k::ks,x::xs,v::vs,aD+1,K,r,b,e,i,h=>by
  simp only [fc] at h;obtain⟨y,h,m⟩:=pQ o (e 0 x v (by omega) rfl rfl) h;obtain⟨d,h,n,D⟩:=LM o (aD:=aD) (by simpa using b) (λj x v p h1 f=>e (j+1) x v (by omega) (by simpa using h1) (by simpa using f)) (λk B=>i k (by simpa using B)) h;refine⟨_,h,by simp [n],λj y' u p hy l=> ?_⟩;cases j with
  | zero=>simp at hy l;subst hy;subst l;exact m
  | succ j=>exact D j y' u (by omega) (by simpa using hy) (by simpa using l)
theorem QE{R:Type}{t:TypeId}{i:Id}{ah sz aD rsz base off:Nat}{e:Row}{h:Id->Option ab}{K:AV->Option R}{r:R}(hs:HS c w h ρ O)(B:bV P t=true)(n:cc=none\/cc=some true)(g:jb w (AA c w O) ρ O i ah sz aD rsz base e)(b:sU P t cc i sz aD off e K=some r):
  ∃av v,K av=some r/\(loadVar t ⟨ah,base+off,none⟩).run P w= .ok v w/\an w (AA c w O) ρ av v:=by
 unfold sU at b;cases hb:bp P t
 .simp only [hb,cond_false] at b;split at b
  .rename_i d;subst d;obtain⟨_,_,_,v,J,L,_⟩:=g;exact⟨_,v,b,Aa B hb _ _ v J,by simp only [an];exact L⟩
  .rename_i E;replace b:=aO b n;obtain⟨x,q,b⟩:=b;have F:e.cs[off]? =some x:=by rw [List.head?_drop] at q;exact q
   obtain⟨u,z,m⟩:=g.2.2.1 off x E F;obtain⟨y,b,I⟩:=pQ n m b;exact⟨_,u,b,Aa B hb _ _ u z,by simp only [an];exact I⟩
 .simp only [hb,cond_true] at b;split at b
  .rename_i o;obtain⟨rfl,W⟩:=o;obtain⟨l,N,X,b⟩:=Ak n b;have Q:=g.1;have D:l=e.cs:=by rw [N,V9 (by omega)]
   subst D;obtain⟨vs,Y,T,U,Z,G,H⟩:=g.bg;have M:=g.2.1;obtain⟨V,b,z,m⟩:=LM n (ks:=(uE P t).set aD .x) (aD:=aD) (by omega) U (λk b=>by
    rw [WE] at b;simp only [if_true] at b;split at b
    .simpa using b.symm
    .cases b) b
   refine⟨_, .agg vs.toArray,b, ?_, ?_⟩
   .rw [X7];exact D7 B hb _ _ vs (by omega) T
   .simp only [an];refine⟨vs,rfl,aC.vN (by simp [z]) λj a v f hv=> ?_,λu S=> ?_⟩
    .rw [WE] at f;by_cases d:aD=j
     .subst d;rw [if_pos rfl] at f;split at f
      .simp only [U7] at f;subst f;rw [G] at hv;cases hv;simp only [an];exact H
      .cases f
     .rw [if_neg d,VZ] at f;obtain⟨x,q,rfl⟩:=XS.1 f;simp only [an];exact m j x v (λe=>d e.symm) q hv
    .obtain⟨j,p⟩:=Ym.1 S;by_cases d:j=aD
     .subst d;rw [G] at p;cases p;exact hs.gone _ _ _ H
     .have C:j < V.length:=by have:=(Vi.1 p).1;omega
      exact(m j _ u d (Vd C) p).qT
  .cases b
theorem IZ{R:Type}{t:TypeId}{a:AV}{va:Value}{K:AV->Option R}{r:R}(hs:HS c w s.h ρ O)(f:an w (AA c w O) ρ a va)(g:cc=none\/cc=some true)(h:kA P s cc t a K=some r):
  ∃av v,K av=some r/\(Instr.loadAt t va).run P w= .ok v w/\an w (AA c w O) ρ av v:=by
 unfold kA at h;cases B:bV P t
 .simp [B] at h
 simp only [B,cond_true] at h;split at h
 .rename_i i off;split at h
  .rename_i cs hi;obtain⟨b,arr,Q,h1,F,W,M,C,h6⟩:=BE hs hi;simp only [an] at f;obtain⟨b',d,rfl⟩:=f;rw [h1] at d;simp only [U7,Xk,Wr] at d;obtain⟨rfl,_⟩:=d;obtain⟨av,v,p,H,I⟩:=QH (b:=b) (off:=off) B (M.drop off) (λu hu=>C u (W1 hu)) (λj v X=>h6 _ v (by rw [XU] at X;exact X)) h;exact⟨av,v,p,by simpa [Instr.loadAt,Instr.sureAddr] using H,I⟩
  .rename_i l hi;obtain⟨b,h1,F,W,M⟩:=hs.ah i _ hi;simp only [an] at f;obtain⟨b',d,rfl⟩:=f;rw [h1] at d;simp only [U7,Xk,Wr] at d;obtain⟨rfl,_⟩:=d;have C:=M.drop off;rw [VP] at C;obtain⟨av,v,p,H,I⟩:=zA B g C h;exact⟨av,v,p,by simpa [Instr.loadAt,Instr.sureAddr] using H,I⟩
  .simp at h
 .rename_i i sz k off;split at h
  .rename_i fz Z bb xs hi;split at h
   .rename_i z;subst z;replace h:=aO h g;obtain⟨cs,m,h⟩:=h;obtain⟨v,h1,F⟩:=ru hs hi;simp only [an] at f;obtain⟨b,o,L,cap,d,rfl⟩:=f;rw [h1] at d;simp only [U7] at d;subst d;obtain⟨a',cap',p,H,I,g4,J⟩:=F;simp only [WG] at p;obtain⟨rfl,rfl,rfl⟩:=p;have N:k < xs.length:=(Vi.1 m).1;rcases J with J | ⟨ah,off',arr,Q,y,S,U,V,q⟩
    .omega
    .simp only [U7,Wr] at y;obtain⟨rfl,rfl,_⟩:=y;obtain⟨_,G⟩:=q.get m;obtain⟨av,v,q1,D,E⟩:=zA (ρ:=ρ) B g (G.drop off) h;exact⟨av,v,q1,by simpa [Instr.loadAt,Instr.sureAddr] using D,E⟩
   .simp at h
  .rename_i bb Z aD rsz nx es hi;split at h
   .rename_i z;subst z;replace h:=aO h g;obtain⟨e,m,h⟩:=h;obtain⟨a,cap,h1,F,W,M,C⟩:=hs.ah i _ hi;simp only [an] at f;obtain⟨b,o,L,cap',d,rfl⟩:=f;rw [h1] at d;simp only [U7,WG] at d;obtain⟨rfl,rfl,rfl⟩:=d;have N:k < es.length:=(Vi.1 m).1;rcases C with C | ⟨ah,off',arr,Q,y,S,U,V,q⟩
    .omega
    .simp only [U7,Wr] at y;obtain⟨rfl,rfl,_⟩:=y;obtain⟨av,v,q1,D,E⟩:=QE hs B g (q.get m) h;exact⟨av,v,q1,by simpa [Instr.loadAt,Instr.sureAddr] using D,E⟩
   .simp at h
  .simp at h
 .rename_i i sz n k off;replace h:=D4 hs g h;obtain⟨rsz,bb,xs,v,h,hv,Y⟩:=h;split at h
  .rename_i z;subst z;replace h:=aO h g;obtain⟨cs,m,h⟩:=h;simp only [an] at f;obtain⟨b,o,L,cap,d,rfl⟩:=f;rw [hv] at d;simp only [U7] at d;subst d;obtain⟨a',cap',p,H,I,g4,J⟩:=Y;simp only [WG] at p;obtain⟨rfl,rfl,rfl⟩:=p;have N:k < xs.length:=(Vi.1 m).1;rcases J with J | ⟨ah,off',arr,Q,y,S,U,V,q⟩
   .omega
   .simp only [U7,Wr] at y;obtain⟨rfl,rfl,_⟩:=y;obtain⟨_,G⟩:=q.get m;obtain⟨av,v,q1,D,E⟩:=zA (ρ:=ρ) B g (G.drop off) h;exact⟨av,v,q1,by simpa [Instr.loadAt,Instr.sureAddr] using D,E⟩
  .simp at h
 .rename_i x;replace h:=aO h g;obtain⟨cs,m,h⟩:=h;have:=T.zP m;subst this;simp only [an,aB] at f;obtain⟨ah,off,rfl,h1,F⟩:=f;obtain⟨av,v,q1,D,E⟩:=zA (ρ:=ρ) B g F h;exact⟨av,v,q1,by simpa [Instr.loadAt,Instr.sureAddr] using D,E⟩
 .simp at h
theorem Cx{t:TypeId}{f:Nat}{p:Nat×TypeId}(h:u4 P t f=some p):∃a x,P.underlying t=some (.struct a)/\a[f]? =some x/\p= (x.offset,x.type)/\bV P p.2=true:=by
 unfold u4 at h;split at h
 .rename_i a d;split at h
  .rename_i x e;cases b:bV P x.type
   .simp [b] at h
   .simp only [b,cond_true,U7] at h;subst h;exact⟨a,x,d,e,rfl,b⟩
  .simp at h
 .simp at h
theorem yU{t e:TypeId}(h:nD P t=some e):P.underlying t=some (.slice e)/\bV P e=true:=by
 unfold nD at h;split at h
 .rename_i e' b;cases a:bV P e'
  .simp [a] at h
  .simp only [a,cond_true,U7] at h;subst h;exact⟨b,a⟩
 .simp at h
theorem Fs{t:TypeId}{p:Nat×TypeId}(h:yg P t=some p):P.underlying t=some (.array p.1 p.2)/\bV P p.2=true:=by
 unfold yg at h;split at h
 .rename_i n e' b;cases a:bV P e'
  .simp [a] at h
  .simp only [a,cond_true,U7] at h;subst h;exact⟨b,a⟩
 .simp at h
theorem PK{R:Type}{t:TypeId}{x:AV}{m:Value}{f:Nat}{K:AV->Option R}{r:R}(a:an w A ρ x m)(B:cc=none\/cc=some true)(h:sL P cc t x f K=some r):
  ∃av v,K av=some r/\(Instr.fieldAt t m f).run P w= .ok v w/\an w A ρ av v:=by
 unfold sL at h;split at h
 .rename_i off u C;obtain⟨E,y,h1,q,l,z⟩:=Cx C;simp only [Wk] at l;obtain⟨rfl,rfl⟩:=l;split at h
  .simp at h
  .rename_i hz;have d:∀b o,(Instr.fieldAt t (.pointer (some ⟨b,o,none⟩)) f).run P w= .ok (.pointer (some ⟨b,o+y.offset,none⟩)) w:=by
    intro b o;simp [Instr.fieldAt,run_underlying h1,q,Instr.sureAddr,fieldPlace,jw z,hz,hZ]
   split at h
   .rename_i j o;simp only [an] at a;obtain⟨b,e,rfl⟩:=a;exact⟨_,_,h,d _ _,by simp only [an];exact⟨b,e,rfl⟩⟩
   .rename_i j sz k o;simp only [an] at a;obtain⟨b,i,L,cap,e,rfl⟩:=a;exact⟨_,_,h,d _ _,by simp only [an];exact⟨b,i,L,cap,e,by rw [XZ]⟩⟩
   .rename_i j sz n k o;simp only [an] at a;obtain⟨b,i,L,cap,e,rfl⟩:=a;exact⟨_,_,h,d _ _,by simp only [an];exact⟨b,i,L,cap,e,by rw [XZ]⟩⟩
   .rename_i y';replace h:=aO h B;obtain⟨cs,D,h⟩:=h;have:=T.zP D;subst this;simp only [an,aB] at a;obtain⟨ah,o,rfl,g,p⟩:=a;refine⟨_,_,h,d _ _, ?_⟩;simp only [an,aB];refine⟨ah,_,rfl, ?_,p.drop _⟩;rcases g with rfl | g
    .exact .inl (by simp)
    .exact .inr g
   .simp at h
 .simp at h
theorem o8{R:Type}{i:Int}{n:Nat}{K:Option R}{r:R}(b:cc=none\/cc=some true)(h:kx cc i n K=some r): 0<=i/\i < n/\K=some r:=by
 unfold kx at h;replace h:=aO h b;obtain⟨_,h1,h⟩:=h;split at h1
 .rename_i a;exact⟨a.1,a.2,h⟩
 .simp at h1
theorem Qi{R:Type}{t:TypeId}{x:AV}{vx:Value}{i:Int}{ki:IntKind}{K:AV->Option R}{r:R}(hs:HS c w s.h ρ O)(d:an w (AA c w O) ρ x vx)(u:cc=none\/cc=some true)(h:jO P s cc t x i K=some r):
  ∃av v,K av=some r/\(Instr.indexAt t vx (.int ki i)).run P w= .ok v w/\an w (AA c w O) ρ av v:=by
 unfold jO at h;split at h
 .rename_i e J;obtain⟨M,F⟩:=yU J;have f:∀b o len cap,0<=i->i < (len:Nat)->(Instr.indexAt t (.slice (some ⟨b,o,none⟩) len cap) (.int ki i)).run P w= .ok (.pointer (some ⟨b,o+i.toNat * P.cellsOf e,none⟩)) w:=by
   intro b o len cap l h1;simp [Instr.indexAt,asIntOf,run_underlying M,l,h1,jw F,hZ]
  split at h
  .rename_i j;split at h
   .rename_i fz sz bb xs D;split at h
    .rename_i q;subst q;obtain⟨l,h1,h⟩:=o8 u h;obtain⟨v,g,m⟩:=ru hs D;simp only [an] at d;rw [g] at d;simp only [U7] at d;subst d;obtain⟨I,cap',q1,Z,q3,q4,z⟩:=m;rcases z with z | ⟨ah,off',arr,U,C,N,Q,S,G⟩
     .omega
     .subst C;subst q1;exact⟨_,_,h,f _ _ _ _ l h1,by simp only [an];exact⟨ah,off',_,_,g,by simp⟩⟩
    .simp at h
   .rename_i bb sz aD rsz nx es D;split at h
    .rename_i q;subst q;obtain⟨l,h1,h⟩:=o8 u h;obtain⟨a,cap,g,m,W,g4,H⟩:=hs.ah j _ D;simp only [an] at d;rw [g] at d;simp only [U7] at d;subst d;rcases H with H | ⟨ah,off',arr,U,C,N,Q,S,G⟩
     .omega
     .subst C;exact⟨_,_,h,f _ _ _ _ l h1,by simp only [an];exact⟨ah,off',_,_,g,by simp⟩⟩
    .simp at h
   .simp at h
  .rename_i j n;replace h:=D4 hs u h;obtain⟨rsz,bb,xs,v,h,hv,Y⟩:=h;split at h
   .rename_i q;subst q;obtain⟨l,h1,h⟩:=o8 u h;simp only [an] at d;rw [hv] at d;simp only [U7] at d;subst d;obtain⟨I,cap',q1,Z,q3,q4,z⟩:=Y;rcases z with z | ⟨ah,off',arr,U,C,N,Q,S,G⟩
    .omega
    .subst C;subst q1;exact⟨_,_,h,f _ _ _ _ l h1,by simp only [an];exact⟨ah,off',_,_,hv,by simp⟩⟩
   .simp at h
  .rename_i j sz off n;split at h
   .rename_i fz sz' bb xs D;split at h
    .rename_i q;obtain⟨rfl,rfl⟩:=q;obtain⟨l,h1,h⟩:=o8 u h;obtain⟨v,g,m⟩:=ru hs D;simp only [an] at d;obtain⟨a,L,cap,I,B,e2,e3,rfl,e4⟩:=d;rw [g] at B;simp only [U7] at B;subst B;obtain⟨a'',cap'',q1,Z,q3,q4,z⟩:=m;simp only [WG] at q1;obtain⟨rfl,rfl,rfl⟩:=q1;rcases z with z | ⟨ah,off',arr,U,C,N,Q,S,G⟩
     .omega
     .subst C;have ea:I=some ⟨ah,off'+off * P.cellsOf e,none⟩:=by
       rcases e4 with⟨rfl,rfl⟩ | ⟨rfl,_⟩ | ⟨b,o,V,e6⟩
       .simp
       .omega
       .simp only [U7,Wr] at V;obtain⟨rfl,rfl,_⟩:=V;exact e6
      subst ea;refine⟨_,_,h,f _ _ _ _ l h1, ?_⟩;simp only [an];exact⟨ah,off',_,_,g,by congr 3;rw [XI];omega⟩
    .simp at h
   .simp at h
  .rename_i y;replace h:=aO h u;obtain⟨p,hp,h⟩:=h;obtain⟨l,h1,h⟩:=o8 u h;replace h:=aO h u;obtain⟨cs,E,h⟩:=h;rcases T.qQ hp with rfl | ⟨rfl,X⟩
   .simp only [an,aB] at d;rcases d with⟨_,e,_⟩ | ⟨_,ah,off,sp,cap,rfl,g,m,W⟩
    .rw [e] at h1;simp at h1;omega
    .rcases m with m | ⟨rfl,m⟩
     .rw [m] at E;simp at E
     refine⟨_,_,h,f _ _ _ _ l h1, ?_⟩;obtain⟨g4,H⟩:=W.get E;simp only [an,aB];exact⟨ah,_,rfl, .inr m,H⟩
   .rw [X] at h1;simp at h1;omega
  .simp at h
 .split at h
  .rename_i n e J;obtain⟨M,F⟩:=Fs J;obtain⟨l,h1,h⟩:=o8 u h;have f:∀b o,(Instr.indexAt t (.pointer (some ⟨b,o,none⟩)) (.int ki i)).run P w= .ok (.pointer (some ⟨b,o+i.toNat * P.cellsOf e,none⟩)) w:=by
    intro b o;simp [Instr.indexAt,asIntOf,run_underlying M,Instr.sureAddr,l,h1,jw F,hZ]
   split at h
   .rename_i j off;simp only [an] at d;obtain⟨b,B,rfl⟩:=d;exact⟨_,_,h,f _ _,by simp only [an];exact⟨b,B,rfl⟩⟩
   .rename_i j sz k off;simp only [an] at d;obtain⟨b,o',L,cap,B,rfl⟩:=d;exact⟨_,_,h,f _ _,by simp only [an];exact⟨b,o',L,cap,B,by rw [XZ]⟩⟩
   .rename_i y;replace h:=aO h u;obtain⟨cs,E,h⟩:=h;have:=T.zP E;subst this;simp only [an,aB] at d;obtain⟨ah,o,rfl,g,m⟩:=d;refine⟨_,_,h,f _ _, ?_⟩;simp only [an,aB];refine⟨ah,_,rfl, ?_,m.drop _⟩;rcases g with rfl | g
    .exact .inl (by simp)
    .exact .inr g
   .simp at h
  .simp at h
end
open Go
section
variable {P:Program} {w w':World} {A A':Nat->Prop} {c:Ctx} {ρ:Id->Option Value} {O:Id->Option Nat} {s:St} {cc:Option Bool}
theorem Qx{R:Type}{t ty:TypeId}{ts:Array TypeId}{x:AV}{u:Value}{K:AV->Option R}{r:R}(hs:HS c w s.h ρ O)(d:an w (AA c w O) ρ x u)(l:cc=none\/cc=some true)(h:nL P s cc t x K=some r)
  (g:ts[0]? =some t):∃av v,K av=some r/\(Builtin.len_ ts ty #[u]).run P w= .ok v w/\an w (AA c w O) ρ av v:=by
 unfold nL at h;split at h
 .rename_i i;split at h
  .rename_i y;replace h:=aO h l;obtain⟨b,hb,h⟩:=h;have:=T.kK hb;subst this;simp only [an,aB] at d;subst d;exact⟨_,_,h,by simp [Builtin.len_,g,run_underlying i];rfl,by simp only [an];exact gM _ _ _ _⟩
  .simp at h
 .rename_i n e i;exact⟨_,_,h,by simp [Builtin.len_,g,run_underlying i];rfl,by simp only [an];exact gM _ _ _ _⟩
 .rename_i e i;have f:∀a n cap,(Builtin.len_ ts ty #[.slice a n cap]).run P w= .ok (goInt n) w:=by
   intro a n cap;simp [Builtin.len_,g,run_underlying i]
  split at h
  .rename_i j;split at h
   .rename_i E sz bb xs m;obtain⟨v,k,o,cap',q1,H,I,J,M⟩:=ru hs m;simp only [an] at d;rw [k] at d;simp only [U7] at d;subst d;subst q1;exact⟨_,_,h,f _ _ _,by simp only [an];exact gM _ _ _ _⟩
   .rename_i bb sz aD rsz nx es m;obtain⟨a,cap,k,_⟩:=hs.ah j _ m;simp only [an] at d;rw [k] at d;simp only [U7] at d;subst d;exact⟨_,_,h,f _ _ _,by simp only [an];exact gM _ _ _ _⟩
   .simp at h
  .rename_i j n;replace h:=D4 hs l h;obtain⟨rsz,bb,xs,v,h,hv,o,cap',q1,_⟩:=h;simp only [an] at d;rw [hv] at d;simp only [U7] at d;subst d;subst q1;exact⟨_,_,h,f _ _ _,by simp only [an];exact gM _ _ _ _⟩
  .rename_i j sz off n;simp only [an] at d;obtain⟨a,L,cap,o,C,e2,e3,rfl,D⟩:=d;exact⟨_,_,h,f _ _ _,by simp only [an];exact gM _ _ _ _⟩
  .rename_i y;replace h:=aO h l;obtain⟨p,z,h⟩:=h;rcases T.qQ z with rfl | ⟨rfl,q⟩
   .simp only [an,aB] at d;rcases d with⟨_,e,rfl⟩ | ⟨_,ah,off,B,cap,rfl,k,F,G⟩
    .refine⟨_,_,h,f _ _ _, ?_⟩;simp only [an,e];exact gM _ _ _ _
    .exact⟨_,_,h,f _ _ _,by simp only [an];exact gM _ _ _ _⟩
   .simp only [an,aB] at d;rw [q] at h;rcases d with⟨_,rfl⟩ | ⟨_,ah,off,B,rfl⟩ <;> exact⟨_,_,h,f _ _ _,by simp only [an];exact gM _ _ _ _⟩
  .simp at h
 .simp at h
theorem Bs{x:T}{n:Int}(h:jg.anyInt x=some n):∃k,x= .int k n:=by cases x <;> simp_all [jg.anyInt]
def jF(b:Option Int)(v:Option Value):Prop:=match b,v with
 | none,none=>True
 | some n,some (.int _ m)=>m=n
 | _,_=>False
theorem BD{R:Type}{a:Act}{g:Option Gs}{o:Option Operand}{K:Option Int->Option R}{r:R}(j:SS w A ρ s.t a.tmps)(i:kP a.tmps g)(e:cc=none\/cc=some true)(h:jg s cc g o K=some r):
  ∃b,K b=some r/\jF b (o.map a.eval):=by
 unfold jg at h;split at h
 .exact⟨none,h,trivial⟩
 .rename_i o;cases d:(s.get g o).t? with
  | none=>simp [d] at h
  | some x=>simp only [d,Vj] at h;replace h:=aO h e;obtain⟨n,f,h⟩:=h;obtain⟨k,rfl⟩:=Bs f;have:=SS.get (h:=s.h) j i o;rw [show(⟨s.t,s.h⟩:St)=s from rfl,AV.mB d] at this;simp only [an,aB] at this;exact⟨some n,h,by simp [jF,this]⟩
theorem zo{a hi n:Int}(h:bQ a hi n=some ()): 0<=a/\a<=hi/\hi<=n:=by
 unfold bQ at h;split at h
 .assumption
 .simp at h
theorem xc{v:Option Value}(h:jF none v):v=none:=by cases v <;> simp_all [jF]
theorem rO{n:Int}{v:Option Value}(h:jF (some n) v):∃k,v=some (.int k n):=by
 cases v with
 | none=>simp [jF] at h
 | some v=>cases v <;> simp_all [jF]
theorem tz(k:IntKind)(n:Int)(y:Nat)(a:BoundsCode)(b: 0<=n)(h1:n<=y):(Instr.sliceBound (.int k n) y a).run P w= .ok n.toNat w:=run_sliceBound w k n y a b h1
theorem Kz(o:Bool){b hi:Option Int}{i g:Option Value}{len cap:Nat}(f:jF b i)(l:jF hi g)(h1: 0<=b.getD 0)(d:b.getD 0<=hi.getD len)(j:hi.getD len<=cap):
  (Instr.sliceBounds o len cap i g none).run P w= .ok ((b.getD 0).toNat,(hi.getD len).toNat,cap) w:=by
 cases hi with
 | none=>
  have:=xc l;subst this;simp only [V7] at d j⊢;cases b with
  | none=>have:=xc f;subst this;simp [Instr.sliceBounds]
  | some n=>obtain⟨k,rfl⟩:=rO f;simp only [VD] at h1 d⊢;have e:=tz (P:=P) (w:=w) k n len .sliceB h1 d;simp [Instr.sliceBounds,e]
 | some m=>
  obtain⟨p,rfl⟩:=rO l;simp only [VD] at d j⊢;have e':∀a,(Instr.sliceBound (.int p m) cap a).run P w= .ok m.toNat w:=λa=>tz p m cap a (by omega) j;cases b with
  | none=>have:=xc f;subst this;simp [Instr.sliceBounds,e']
  | some n=>obtain⟨k,rfl⟩:=rO f;simp only [VD] at h1 d⊢;have e:=tz (P:=P) (w:=w) k n m.toNat .sliceB h1 (by omega);simp [Instr.sliceBounds,e,e']
theorem Tu{R:Type}{t:TypeId}{x:AV}{vx:Value}{g hi mx:Option Int}{S Q E:Option Value}{K:AV->Option R}{r:R}(hs:HS c w s.h ρ O)(q:an w (AA c w O) ρ x vx)(I:cc=none\/cc=some true)
  (hl:jF g S) (hh:jF hi Q) (hm:jF mx E) (h:oc P s cc t x g hi mx K=some r):
  ∃av v,K av=some r/\(Instr.sliceAt t vx S Q E).run P w= .ok v w/\an w (AA c w O) ρ av v:=by
 unfold oc at h;split at h
 .rename_i Z;split at h
  .rename_i y;replace h:=aO h I;obtain⟨b,hb,h⟩:=h;have:=T.kK hb;subst this;simp only [an,aB] at q;subst q;replace h:=aO h I;obtain⟨_,hb,h⟩:=h;obtain⟨h1,l,B⟩:=zo hb;have hvm:E=none:=by cases E with | none=>rfl | some v=>simp [jF] at hm
   subst hvm;refine⟨_,_,h, ?_,by simp only [an];exact mu _ _ _⟩;have:=Kz (P:=P) (w:=w) false (len:=b.size) (cap:=b.size) hl hh h1 l B;simp [Instr.sliceAt,Instr.slice,run_underlying Z,this]
  .simp at h
 .rename_i e Z;split at h
  .have hvm:E=none:=by cases E with | none=>rfl | some v=>simp [jF] at hm
   subst hvm
   have z:bV P e=true->∀(a:Option Addr) (len cap:Nat),0<=g.getD 0->g.getD 0<=hi.getD len->hi.getD len<=cap->
     (Instr.sliceAt t (.slice a len cap) S Q none).run P w= .ok (.slice (if cap= (g.getD 0).toNat then a else a.map (·.add ((g.getD 0).toNat * P.cellsOf e))) ((hi.getD len).toNat - (g.getD 0).toNat) (cap - (g.getD 0).toNat)) w:=by
    intro f a len cap h1 l B;have:=Kz (P:=P) (w:=w) true hl hh h1 l B;simp [Instr.sliceAt,Instr.slice,run_underlying Z,this,jw f]
   split at h
   .rename_i j;split at h
    .rename_i fz sz bb xs Y;split at h
     .rename_i N;obtain⟨N,f⟩:=N;subst N;replace h:=aO h I;obtain⟨_,hb,h⟩:=h;obtain⟨h1,l,B⟩:=zo hb;obtain⟨v,G,F,cap',q1,q2,q3,q4,U⟩:=ru hs Y;simp only [an] at q;rw [G] at q;simp only [U7] at q;subst q;subst q1;refine⟨_,_,h,z f _ _ _ h1 l (by omega), ?_⟩;simp only [an];refine⟨F,_,cap',_,G,by omega,q2,rfl, ?_⟩;by_cases e0:(g.getD 0).toNat=0
      .left;refine⟨e0, ?_⟩;rw [e0];split
       .rfl
       .cases F <;> simp [Addr.add]
      .by_cases i:cap'= (g.getD 0).toNat
       .right;left;rw [if_pos i];exact⟨i.symm,Zm,q4⟩
       .right;right;rw [if_neg i];rcases U with U | ⟨ah,off',arr,t',q6,_⟩
        .omega
        .subst q6;exact⟨ah,off',rfl,by simp [hZ]⟩
     .simp at h
    .simp at h
   .rename_i j sz off n;split at h
    .rename_i fz sz' bb xs Y;split at h
     .rename_i N;obtain⟨rfl,rfl,f⟩:=N;replace h:=aO h I;obtain⟨_,hb,h⟩:=h;obtain⟨h1,l,B⟩:=zo hb;simp only [an] at q;obtain⟨a,L,cap,F,i,e2,e3,rfl,e4⟩:=q;obtain⟨v,G,a'',cap'',q1,q2,q3,q4,U⟩:=ru hs Y;rw [G] at i;simp only [U7] at i;subst i;simp only [WG] at q1;obtain⟨rfl,rfl,rfl⟩:=q1;refine⟨_,_,h,z f _ _ _ h1 l (by omega), ?_⟩;simp only [an];refine⟨a,_,cap,_,G,by omega,e3,by congr 1;omega, ?_⟩;by_cases e0:(g.getD 0).toNat=0
      .have:(if cap - off= (g.getD 0).toNat then F else F.map (·.add ((g.getD 0).toNat * P.cellsOf e)))=F:=by
        rw [e0];split
        .rfl
        .cases F <;> simp [Addr.add]
       rw [this,e0,X7];exact e4
      .by_cases M:cap - off= (g.getD 0).toNat
       .right;left;rw [if_pos M];refine⟨by omega, ?_, ?_⟩
        .rcases e4 with⟨_,rfl⟩ | ⟨_,C,_⟩ | ⟨b,o,rfl,rfl⟩
         .exact Zm
         .exact C
         .simp
        .trivial
       .right;right;rw [if_neg M];rcases U with U | ⟨ah,off',arr,t',q6,_⟩
        .omega
        .subst q6;rcases e4 with⟨e7,rfl⟩ | ⟨e7,_⟩ | ⟨b,o,C,rfl⟩
         .subst e7;exact⟨ah,off',rfl,by simp [hZ]⟩
         .omega
         .exact⟨b,o,C,by simp [hZ,XI,XZ]⟩
     .simp at h
    .simp at h
   .rename_i y;split at h
    .rename_i f;replace h:=aO h I;obtain⟨p,hp,h⟩:=h;replace h:=aO h I;obtain⟨_,hb,h⟩:=h;obtain⟨h1,l,B⟩:=zo hb;rcases T.qQ hp with rfl | ⟨rfl,hp2⟩
     .simp only [an,aB] at q;rcases q with⟨i,e,rfl⟩ | ⟨i,ah,off,D,cap,rfl,G,H,g3⟩
      .rw [e] at l B h;refine⟨_,_,h,z f _ _ _ (by simpa using h1) (by simpa using l) (by simpa using B), ?_⟩;simp only [VS,Int.natCast_zero] at l B;have M:(g.getD 0).toNat=0:=by omega
       have C:(hi.getD ((0:Nat):Int)).toNat=0:=by
        have:hi.getD ((0:Nat):Int)=hi.getD 0:=by simp
        rw [this];omega
       simp only [an,aB,sub,Zz,ZA];left;refine⟨i,trivial, ?_⟩;rw [C];simp
      .refine⟨_,_,h,z f _ _ _ h1 l (by omega), ?_⟩;simp only [an,aB];right;refine⟨i, ?_⟩;by_cases M:cap= (g.getD 0).toNat
       .rw [if_pos M];have C:(hi.getD ((p.2.length:Nat):Int)).toNat - (g.getD 0).toNat=0:=by omega
        refine⟨ah,off,D,cap - (g.getD 0).toNat, ?_, ?_, .inl ?_, ?_⟩
        .simp only [sub,C,X5,VS]
        .simp only [sub,C,X5,VS];omega
        .simp [sub,C]
        .simp [sub,C,aZ]
       .rw [if_neg M];have J:(sub (g.getD 0) (hi.getD ((p.2.length:Nat):Int)) p.2).length= (hi.getD ((p.2.length:Nat):Int)).toNat - (g.getD 0).toNat:=by
         simp only [sub,Wb,Xd];omega
        rcases H with H | ⟨H,g4⟩
        .have e7:(g.getD 0).toNat=0:=by rw [H] at B;simp only [VS] at B;rw [H] at l;simp only [VS] at l;omega
         refine⟨ah,off,D,cap - (g.getD 0).toNat, ?_, ?_, .inl (by simp [sub,H]),by simp [sub,H,aZ]⟩
         .rw [J,e7];simp [Addr.add]
         .rw [J];omega
        .subst H;refine⟨ah,off+ (g.getD 0).toNat * P.cellsOf e,none,cap - (g.getD 0).toNat, ?_, ?_, .inr ⟨rfl,g4⟩, ?_⟩
         .rw [J];simp only [Xm,hZ]
         .rw [J];omega
         .exact(g3.drop _).take _
     .rw [hp2] at l B h;simp only [an,aB] at q;simp only [VS,Int.natCast_zero] at l B;have M:(g.getD 0).toNat=0:=by omega
      have C:(hi.getD ((0:Nat):Int)).toNat=0:=by
       have:hi.getD ((0:Nat):Int)=hi.getD 0:=by simp
       rw [this];omega
      rcases q with⟨i,rfl⟩ | ⟨i,ah,off,D,rfl⟩
      .refine⟨_,_,h,z f _ _ _ (by simpa using h1) (by simpa using l) (by simpa using B), ?_⟩;simp only [an,aB,sub,Zz,ZA];left;refine⟨i,trivial, ?_⟩;rw [C];simp
      .refine⟨_,_,h,z f _ _ _ (by simpa using h1) (by simpa using l) (by simpa using B), ?_⟩;simp only [an,aB,sub,Zz,ZA,aZ];right;refine⟨i,ah,off,D,0, ?_,by simp, .inl trivial,trivial⟩;rw [M,C];simp
    .simp at h
   .simp at h
  .rename_i m;obtain⟨km,rfl⟩:=rO hm
   have z:bV P e=true->g.getD 0=0->hi.getD 1=0->m=0->∀(a:Option Addr) (len cap:Nat),
     (Instr.sliceAt t (.slice a len cap) S Q (some (.int km m))).run P w= .ok (.slice a 0 0) w:=by
    intro f h1 l B a len cap;cases hi with
    | none=>simp at l
    | some hn=>
     obtain⟨kh,rfl⟩:=rO hh;simp only [VD] at l;subst l;subst B;have i:∀k,(Instr.sliceBound (.int km 0) cap k).run P w= .ok 0 w:=λk=>tz km 0 cap k (by omega) (by omega);have e2:∀k,(Instr.sliceBound (.int kh 0) 0 k).run P w= .ok 0 w:=λk=>tz kh 0 0 k (by omega) (by omega);cases g with
     | none=>have:=xc hl;subst this;simp [Instr.sliceAt,Instr.slice,run_underlying Z,Instr.sliceBounds,i,e2,jw f]
     | some ln=>obtain⟨kl,rfl⟩:=rO hl;simp only [VD] at h1;subst h1;have e3:∀k,(Instr.sliceBound (.int kl 0) 0 k).run P w= .ok 0 w:=λk=>tz kl 0 0 k (by omega) (by omega);simp [Instr.sliceAt,Instr.slice,run_underlying Z,Instr.sliceBounds,i,e2,e3,jw f]
   have zs:∀{a b d:Int} {u:Unit},AG a b d=some u->a=0/\b=0/\d=0:=by
    intro a b d u hz;unfold AG at hz;split at hz
    .assumption
    .simp at hz
   split at h
   .rename_i y;split at h
    .rename_i f;replace h:=aO h I;obtain⟨p,hp,h⟩:=h;replace h:=aO h I;obtain⟨_,hz,h⟩:=h;obtain⟨V,W,X⟩:=zs hz;rcases T.qQ hp with rfl | ⟨rfl,hp2⟩
     .simp only [an,aB] at q;rcases q with⟨i,e,rfl⟩ | ⟨i,ah,off,D,cap,rfl,G,H,g3⟩
      .exact⟨_,_,h,z f V W X _ _ _,by simp only [an,aB];exact .inl ⟨i,trivial⟩⟩
      .exact⟨_,_,h,z f V W X _ _ _,by simp only [an,aB];exact .inr ⟨i,ah,off,D,rfl⟩⟩
     .simp only [an,aB] at q;rcases q with⟨i,rfl⟩ | ⟨i,ah,off,D,rfl⟩
      .exact⟨_,_,h,z f V W X _ _ _,by simp only [an,aB];exact .inl ⟨i,trivial⟩⟩
      .exact⟨_,_,h,z f V W X _ _ _,by simp only [an,aB];exact .inr ⟨i,ah,off,D,rfl⟩⟩
    .simp at h
   .rename_i j;split at h
    .rename_i fz sz bb xs Y;split at h
     .simp at h
     .rename_i f;simp only [Bool.not_eq_false] at f;replace h:=aO h I;obtain⟨_,hz,h⟩:=h;obtain⟨V,W,X⟩:=zs hz;obtain⟨v,G,F,cap',q1,q2,q3,q4,U⟩:=ru hs Y;simp only [an] at q;rw [G] at q;simp only [U7] at q;subst q;subst q1;refine⟨_,_,h,z f V W X _ _ _, ?_⟩;simp only [an,aB];cases bb
      .right;cases F with
       | none=>simp at q3
       | some x=>obtain⟨b,o,D⟩:=x;exact⟨rfl,b,o,D,rfl⟩
      .left;exact⟨rfl,by rw [q3.2 rfl]⟩
    .simp at h
   .simp at h
 .simp at h
end
open Go
section
variable {P:Program} {w w':World} {A A':Nat->Prop} {c:Ctx} {ρ:Id->Option Value} {O:Id->Option Nat} {s:St} {cc:Option Bool} {h:Id->Option ab}
def tg(v:AV)(i:Id):Prop:=v= .own i\/(∃sz off n,v= .part i sz off n)\/∃off,v= .ref i off
theorem oa{i:Id}{a b:Bool}{sz:Nat}{l:List (List T)}(hs:HS c w h ρ O)(hi:h i=some (.sl a sz b l)):∃v,ρ i=some v/\cT w (AA c w O) sz b l v (λah=>if a=true then AA c w O ah else O i=some ah):=by obtain⟨v,h1,d,_⟩:=hs.ah i _ hi;exact⟨v,h1,d⟩
theorem m8{v:AV}{x:T}{u:Value}(hs:HS c w h ρ O)(hv:an w (AA c w O) ρ v u)(d:dK h v=some x)
  (k:∀b,AA c w O b->A' b) (M:∀i ah,tg v i->O i=some ah->A' ah):aB w A' x u:=by
 have mono:∀(t:T) (v:Value),aB w (AA c w O) t v->aB w A' t v:=λt v hr=>aB.mono (λb hb=>⟨k b hb,rfl⟩) t v hr;cases v <;> simp only [dK,reduceCtorEq,U7] at d
 case t y=>subst d;simp only [an] at hv;exact mono _ _ hv
 case own i=>
  split at d
  .rename_i H sz b xs hi;simp only [U7] at d;subst d;obtain⟨v',I,a,cap,q1,R,z,q4,e⟩:=oa hs hi;simp only [an] at hv;rw [I] at hv;simp only [U7] at hv;subst hv;subst q1;simp only [aB];cases b with
   | true=>
    left;have:a=none:=z.2 rfl;subst this;rcases e with e | ⟨ah,off,arr,t,m,_⟩
    .have:xs= []:=Vt.1 (by omega);subst this;subst e;exact⟨rfl,rfl,rfl⟩
    .cases m
   | false=>
    right;refine⟨rfl, ?_⟩;rcases e with e | ⟨ah,off,arr,t,m,B,q8,q9,q⟩
    .have:xs= []:=Vt.1 (by omega);subst this;cases a with
     | none=>simp at z
     | some y=>obtain⟨F,o,S⟩:=y;exact⟨F,o,S,cap,rfl,R, .inl rfl,by simp [aZ]⟩
    .subst m;refine⟨ah,off,_,cap,rfl,R, .inr ⟨rfl, ?_⟩,aZ.nO (λb hb=>⟨k b hb,rfl⟩) ah sz rfl off xs q⟩;cases H
     .exact M i ah (.inl rfl) (by simpa using B)
     .exact k _ (by simpa using B)
  .simp at d
 case part i sz off n=>
  split at d
  .rename_i H D b xs hi;split at d
   .rename_i X;subst X;simp only [U7] at d;subst d;obtain⟨v',I,a,cap,q1,R,z,q4,e⟩:=oa hs hi;simp only [an] at hv;obtain⟨U,L,Y,E,f,e2,e3,rfl,W⟩:=hv;rw [I] at f;simp only [U7] at f;subst f;simp only [WG] at q1;obtain⟨rfl,rfl,rfl⟩:=q1;have Q:((xs.drop off).take n).length=n:=by simp only [Wb,Xd];omega
    simp only [aB,Q];have g:E=none↔U=none:=by
     rcases W with⟨_,rfl⟩ | ⟨_,p,_⟩ | ⟨V,o,rfl,rfl⟩
     .exact Zm
     .exact p
     .simp
    cases b with
    | true=>
     left;have p:U=none:=z.2 rfl;subst p;rcases e with e | ⟨ah,off',arr,t,m,_⟩
     .have G:xs= []:=Vt.1 (by omega);subst G;subst e;simp only [VS] at e2;have e7:n=0:=by omega
      subst e7;rw [g.2 rfl];exact⟨rfl,by simp,by congr 1;omega⟩
     .cases m
    | false=>
     right;refine⟨rfl, ?_⟩;by_cases hn:n=0
     .subst hn;cases E with
      | none=>have:=g.1 rfl;simp [this] at z
      | some y=>obtain⟨F,o,S⟩:=y;exact⟨F,o,S,_,rfl,by omega, .inl (by simp),by simp [aZ]⟩
     .rcases e with e | ⟨ah,off',arr,t,m,B,q8,q9,q⟩
      .omega
      .subst m;have Z:E=some ⟨ah,off'+off * D,none⟩:=by
        rcases W with⟨rfl,rfl⟩ | ⟨rfl,_⟩ | ⟨V,o,p,G⟩
        .simp
        .omega
        .simp only [U7,Wr] at p;obtain⟨rfl,rfl,_⟩:=p;exact G
       subst Z;refine⟨ah,_,_,_,rfl,by omega, .inr ⟨rfl, ?_⟩,(aZ.nO (λb hb=>⟨k b hb,rfl⟩) ah D rfl off' xs q).drop off |>.take n⟩;cases H
       .exact M i ah (.inr (.inl ⟨_,_,_,rfl⟩)) (by simpa using B)
       .exact k _ (by simpa using B)
   .simp at d
  .simp at d
 case ref i off=>
  simp only [an] at hv;obtain⟨V,f,rfl⟩:=hv;split at d
  .rename_i cs hi;obtain⟨l,hl,d⟩:=U8.1 d;simp only [U7] at d;subst d;obtain⟨b,arr,t',h1,C,J,K,h5,h6⟩:=BE (s:=⟨λ_=>(none, .top),h⟩) hs hi;rw [h1] at f;simp only [U7,Xk,Wr] at f;obtain⟨rfl,_⟩:=f;simp only [aB];refine⟨b,off,rfl, .inr (M i b (.inr (.inr ⟨_,rfl⟩)) C), ?_⟩;have hT:=aR.mj hl K;have key:∀(l:List T) (vs:List Value) (off:Nat),aR w (AA c w O) l vs->(∀j v,vs[j]? =some v->w.cell? ⟨b,off+j,none⟩=some v)->aX w A' b off l:=by
    intro l;induction l with
    | nil=>intro vs off _ _;simp [aX]
    | cons x l ih=>rintro vs off ⟨v,r,rfl,h1,C⟩ hv;simp only [aX];refine⟨⟨v,by simpa using hv 0 v rfl,mono _ _ h1⟩,ih r (off+1) C λj u N=> ?_⟩;have:=hv (j+1) u (by simpa using N);rw [show off+1+j=off+ (j+1) by omega];exact this
   have:=(key l _ 0 hT λj v N=>by rw [VP];exact h6 j v N).drop off;rwa [VP] at this
  .rename_i l hi;simp only [U7] at d;subst d;obtain⟨b,h1,C,J,K⟩:=hs.ah i _ hi;rw [h1] at f;simp only [U7,Xk,Wr] at f;obtain⟨rfl,_⟩:=f;simp only [aB];refine⟨b,off,rfl, .inr (k b J), ?_⟩;have:=(aX.mono (λb hb=>⟨k b hb,rfl⟩) b J 0 l K).drop off;rwa [VP] at this
  .simp at d
def Ko(v:AV)(i:Id):Prop:=tg v i\/∃vs,v= .agg vs/\∃u∈vs,tg u i
theorem Li(hs:HS c w h ρ O)(e:∀b,AA c w O b->A' b):∀{vs:List AV} {xs:List T} {us:List Value},aC w (AA c w O) ρ vs us->lI h vs=some xs->
  (∀i ah,(∃u∈vs,tg u i)->O i=some ah->A' ah)->aR w A' xs us
 | [],xs,us,hv,a,_=>by simp only [lI,U7] at a;subst a;simpa [aC,aR] using hv
 | v::vs,xs,us,hv,a,f=>by
  simp only [lI] at a;cases h1:dK h v with
  | none=>simp [h1] at a
  | some x=>
   cases d:lI h vs with
   | none=>simp [h1,d] at a
   | some l=>simp only [h1,d,Vj,U7] at a;subst a;simp only [aC] at hv;obtain⟨u,r,rfl,g,j⟩:=hv;exact⟨u,r,rfl,m8 hs g h1 e (λi ah hi=>f i ah ⟨v,Vb,hi⟩),Li hs e j d (λi ah ⟨u,k,hi⟩=>f i ah ⟨u,Vc _ k,hi⟩)⟩
theorem Ty{v:AV}{x:T}{u:Value}(hs:HS c w h ρ O)(hv:an w (AA c w O) ρ v u)(a:dK h v=some x):u.oneCell'=true/\u.cells= #[u]:=
 (m8 (A':=λ_=>True) hs hv a (λ_ _=>trivial) (λ_ _ _ _=>trivial)).qT
theorem Tz{v:AV}{xs:List T}{u:Value}(hs:HS c w h ρ O)(hv:an w (AA c w O) ρ v u)(a:lH h v=some xs)(f:∀b,AA c w O b->A' b)
  (g:∀i ah,Ko v i->O i=some ah->A' ah):aR w A' xs u.cells.toList/\∀y∈u.cells.toList,y.oneCell'=true/\y.cells= #[y]:=by
 have one:∀x,dK h v=some x->xs= [x]->aR w A' xs u.cells.toList/\∀y∈u.cells.toList,y.oneCell'=true/\y.cells= #[y]:=by intro x d e;subst e;have l:=m8 hs hv d f (λi ah hi=>g i ah (.inl hi));have h1:=Ty hs hv d;rw [h1.2];exact⟨⟨u,[],rfl,l,rfl⟩,by intro y hy;simp at hy;subst hy;exact h1⟩
 cases v
 case agg vs=>simp only [lH] at a;simp only [an] at hv;obtain⟨m,rfl,j,k⟩:=hv;refine⟨?_,by simpa [Value.cells] using k⟩;have:=Li hs f j a (λi ah hi=>g i ah (.inr ⟨vs,rfl,hi⟩));simpa [Value.cells] using this
 all_goals
  unfold lH at a;obtain⟨x,d,e⟩:=U8.1 a;exact one x d (VR e).symm
def rE(p:Id×ab)(x:Option ab):Prop:=(∃sz b xs,p.2= .sl true sz b xs/\(x=some (.sl false sz b xs)\/x=some (.sl true sz b xs)))\/
 ∃l,p.2= .iW l/\((∃cs,x=some (.box cs)/\ff cs=some l)\/x=some (.iW l))
def ix(h:Id->Option ab)(us:aH):Prop:= ∀p∈us,rE p (h p.1)
theorem rE.again{i:Id}{b k:ab}{x:Option ab}(h1:rE (i,b) x)(o:rE (i,k) x):k=b/\rE (i,k) (some b):=by
 rcases h1 with⟨sz,bb,xs,e,d⟩ | ⟨l,e,d⟩
 .rcases o with⟨g,f,j,e2,a⟩ | ⟨p,e2,a⟩
  .simp only at e e2;have:g=sz/\f=bb/\j=xs:=by
    rcases d with rfl | rfl <;> rcases a with a | a <;> simp at a <;> simp [a]
   obtain⟨rfl,rfl,rfl⟩:=this;exact⟨by rw [e,e2], .inl ⟨_,_,_,e2, .inr (by rw [e])⟩⟩
  .rcases d with rfl | rfl <;> rcases a with⟨cs,a,_⟩ | a <;> simp at a
 .rcases o with⟨g,f,j,e2,a⟩ | ⟨p,e2,a⟩
  .rcases a with rfl | rfl <;> rcases d with⟨cs,d,_⟩ | d <;> simp at d
  .simp only at e e2;have:p=l:=by
    rcases d with⟨cs,rfl,d⟩ | rfl
    .rcases a with⟨n,a,m⟩ | a
     .simp only [U7,ab.box.injEq] at a;subst a;rw [d] at m;simpa using m.symm
     .simp at a
    .rcases a with⟨n,a,m⟩ | a
     .simp at a
     .simpa using a.symm
   subst this;exact⟨by rw [e,e2], .inr ⟨_,e2, .inr (by rw [e])⟩⟩
theorem HS.shut(hs:HS c w h ρ O){i:Id}{b:ab}(g:rE (i,b) (h i)):
  ∃a,Le w ρ O w ρ a/\HS c w (aE h i (some b)) ρ a/\(∀j,a j=O j\/a j=none)/\a i=none/\∀j,j≠i->a j=O j:=by
 have self:∀(f:Id->Option ab) (v:Option ab),f i=v->aE f i v=f:=by
  intro f v h;funext j;unfold aE;split
  .rename_i e;rw [e,h]
  .rfl
 have rel:∀{x:Option ab},HS c w (aE h i x) ρ (aE O i none)->∃a,Le w ρ O w ρ a/\HS c w (aE h i x) ρ a/\(∀j,a j=O j\/a j=none)/\a i=none/\∀j,j≠i->a j=O j:=by
  intro x n;exact⟨_,Le.release,n,λj=>by
   by_cases e:j=i
   .subst e;right;simp
   .left;exact ar _ _ e,by simp,λj e=>ar _ _ e⟩
 have same:h i=some b->O i=none->∃a,Le w ρ O w ρ a/\HS c w (aE h i (some b)) ρ a/\(∀j,a j=O j\/a j=none)/\a i=none/\∀j,j≠i->a j=O j:=by intro h1 k;exact⟨O,Le.refl,by rw [self _ _ h1];exact hs,λj=> .inl rfl,k,λ_ _=>rfl⟩
 rcases g with⟨sz,bb,xs,e,hi⟩ | ⟨l,e,hi⟩
 .simp only at e;subst e;rcases hi with hi | hi
  .exact rel (hs.freeze hi)
  .obtain⟨_,_,_,d⟩:=hs.ah i _ hi;exact same hi (d rfl)
 .simp only at e;subst e;rcases hi with⟨cs,hi,m⟩ | hi
  .exact rel (hs.PU hi m)
  .obtain⟨_,_,d,_⟩:=hs.ah i _ hi;exact same hi d
theorem vf(v:AV):ix h (ik h v):=by
 intro p a;unfold ik at a;split at a
 .split at a
  .rename_i i sz b xs hi;simp only [Vk] at a;subst a;exact .inl ⟨sz,b,xs,rfl, .inl hi⟩
  .cases a
 .split at a
  .rename_i i _ _ _ sz b xs hi;simp only [Vk] at a;subst a;exact .inl ⟨sz,b,xs,rfl, .inl hi⟩
  .cases a
 .split at a
  .rename_i i _ cs hi;split at a
   .rename_i l d;simp only [Vk] at a;subst a;exact .inr ⟨l,rfl, .inl ⟨cs,hi,d⟩⟩
   .cases a
  .cases a
 .cases a
theorem ix.append{us vs:aH}(h1:ix h us)(b:ix h vs):ix h (us++vs):=by
 intro p a;rcases Vr.1 a with a | a
 .exact h1 p a
 .exact b p a
theorem Ii:∀(vs:List AV),ix h (nI h vs)
 | []=>by intro p a;cases a
 | v::vs=>(vf v).append (Ii vs)
theorem CD(v:AV):ix h (gY h v):=by
 unfold gY;split
 .exact Ii _
 .exact vf v
theorem Ay{a:Type}(f:Id->Option a)(i:Id)(v:Option a)(h:f i=v):aE f i v=f:=by
 funext j;unfold aE;split
 .rename_i e;rw [e,h]
 .rfl
theorem HS.Ib:∀{us:aH} {h:Id->Option ab} {O:Id->Option Nat},HS c w h ρ O->ix h us->
  ∃O',Le w ρ O w ρ O'/\HS c w (aL h us) ρ O'/\(∀i,O' i=O i\/O' i=none)/\(∀p∈us,O' p.1=none)/\∀i,(∀p∈us,p.1≠i)->O' i=O i
 | [],h,O,hs,_=>⟨O,Le.refl,hs,λi=> .inl rfl,by simp,λ_ _=>rfl⟩
 | (i,b)::us,h,O,hs,d=>by
  have hi:=d (i,b) Vb;obtain⟨z,n,o,q,r,t⟩:=hs.shut hi;have g:ix (aE h i (some b)) us:=by
   intro p a;have f:=d p (Vc _ a);by_cases e:p.1=i
   .obtain⟨j,x⟩:=p;simp only at e f;subst e;rw [aF];exact(hi.again f).2
   .rw [ar _ _ e];exact f
  obtain⟨m,u,k2,l,v,y⟩:=HS.Ib o g;refine⟨m,n.trans u,k2,λj=> ?_,λp a=> ?_,λj k=> ?_⟩
  .rcases l j with e | e
   .rw [e];exact q j
   .exact .inr e
  .rcases Vo.1 a with rfl | a
   .rcases l i with e | e
    .rw [e];exact r
    .exact e
   .exact v p a
  .rw [y j (λp a=>k p (Vc _ a)),t j (λe=>k (i,b) Vb e.symm)]
theorem zh(hs:HS c w h ρ O){v:AV}{x:T}(a:dK h v=some x){i:Id}{ah:Nat}(hi:tg v i)(d:O i=some ah):∃p∈ik h v,p.1=i:=by
 rcases hi with rfl | ⟨sz,off,n,rfl⟩ | ⟨off,rfl⟩
 .simp only [dK] at a;split at a
  .rename_i f sz b xs hi;cases f
   .exact⟨(i, .sl true sz b xs),by simp [ik,hi],rfl⟩
   .obtain⟨_,_,_,e⟩:=hs.ah i _ hi;rw [e rfl] at d;cases d
  .simp at a
 .simp only [dK] at a;split at a
  .rename_i f g b xs hi;cases f
   .exact⟨(i, .sl true g b xs),by simp [ik,hi],rfl⟩
   .obtain⟨_,_,_,e⟩:=hs.ah i _ hi;rw [e rfl] at d;cases d
  .simp at a
 .simp only [dK] at a;split at a
  .rename_i cs hi;obtain⟨l,j,_⟩:=U8.1 a;exact⟨(i, .iW l),by simp [ik,hi,j],rfl⟩
  .rename_i l hi;obtain⟨_,_,e,_⟩:=hs.ah i _ hi;rw [e] at d;cases d
  .simp at a
theorem Ig(hs:HS c w h ρ O):∀{vs:List AV} {xs:List T},lI h vs=some xs->∀{i:Id} {ah:Nat},(∃u∈vs,tg u i)->O i=some ah->∃p∈nI h vs,p.1=i
 | [],_,_,i,ah,⟨u,hu,_⟩,_=>by cases hu
 | v::vs,xs,a,i,ah,⟨u,hu,hi⟩,f=>by
  simp only [lI] at a;cases h1:dK h v with
  | none=>simp [h1] at a
  | some x=>
   cases d:lI h vs with
   | none=>simp [h1,d] at a
   | some l=>
    rcases Vo.1 hu with rfl | hu
    .obtain⟨p,b,e⟩:=zh hs h1 hi f;exact⟨p,Vn _ b,e⟩
    .obtain⟨p,b,e⟩:=Ig hs d ⟨u,hu,hi⟩ f;exact⟨p,Vp _ b,e⟩
theorem PW(hs:HS c w h ρ O){v:AV}{xs:List T}(a:lH h v=some xs){i:Id}{ah:Nat}(hi:Ko v i)(d:O i=some ah):∃p∈gY h v,p.1=i:=by
 rcases hi with hi | ⟨vs,rfl,hi⟩
 .have:∃x,dK h v=some x:=by
   rcases hi with rfl | ⟨_,_,_,rfl⟩ | ⟨_,rfl⟩ <;> exact(U8.1 a).elim λx b=>⟨x,b.1⟩
  obtain⟨x,b⟩:=this;obtain⟨p,f,e⟩:=zh hs b hi d;refine⟨p, ?_,e⟩;rcases hi with rfl | ⟨_,_,_,rfl⟩ | ⟨_,rfl⟩ <;> exact f
 .exact Ig hs a hi d
theorem Er{v:AV}{xs:List T}{u:Value}{O':Id->Option Nat}(hs:HS c w h ρ O)(hv:an w (AA c w O) ρ v u)(g:lH h v=some xs)(le:Le w ρ O w ρ O')(k:∀i,O' i=O i\/O' i=none)
  (l:∀p∈gY h v,O' p.1=none):aR w (AA c w O') xs u.cells.toList/\∀y∈u.cells.toList,y.oneCell'=true/\y.cells= #[y]:=by
 refine Tz hs hv g (λb hb=>(le.A b hb).1) (λi ah hi f=> ?_);obtain⟨p,m,e⟩:=PW hs g hi f;refine⟨.inr (hs.own i ah f),hs.lt i ah f,λj a=> ?_⟩;rcases k j with d | d
 .rw [d] at a;have:=hs.inj j i ah a f;subst this;have:=l p m;rw [e,d,a] at this;cases this
 .rw [d] at a;cases a
theorem kF(hs:HS c w h ρ O){i:Id}{u:Value}(d:ρ i=some u):u.oneCell'=true/\u.cells= #[u]:=by
 cases hi:h i with
 | none=>
  cases f:i.real with
  | true=>rw [(hs.cC i f hi).1] at d;cases d
  | false=>
   cases i with
   | g i n=>exact hs.gone i n u d
   | _=>cases f
 | some b=>
  have:=hs.ah i b hi;cases b with
  | box cs=>obtain⟨b,_,_,h1,_⟩:=this;rw [d] at h1;simp only [U7] at h1;subst h1;exact⟨rfl,rfl⟩
  | sl j sz b xs=>obtain⟨v,h1,⟨a,cap,e,_⟩,_⟩:=this;rw [d] at h1;simp only [U7] at h1;subst h1;subst e;exact⟨rfl,rfl⟩
  | iW l=>obtain⟨b,h1,_⟩:=this;rw [d] at h1;simp only [U7] at h1;subst h1;exact⟨rfl,rfl⟩
  | mp ag ks vk es=>obtain⟨b,_,_,h1,_⟩:=this;rw [d] at h1;simp only [U7] at h1;subst h1;exact⟨rfl,rfl⟩
  | arr cs=>obtain⟨b,_,_,h1,_⟩:=this;rw [d] at h1;simp only [U7] at h1;subst h1;exact⟨rfl,rfl⟩
  | rows b sz aD rsz nx es=>obtain⟨a,cap,h1,_⟩:=this;rw [d] at h1;simp only [U7] at h1;subst h1;exact⟨rfl,rfl⟩
  | dead=>obtain⟨⟨v,h1,e⟩,_⟩:=this;rw [d] at h1;simp only [U7] at h1;subst h1;exact e
theorem So(hs:HS c w h ρ O){v:AV}{u:Value}(hv:an w A ρ v u)(a:qn v=true):u.oneCell'=true/\u.cells= #[u]:=by
 cases v <;> simp only [qn,VF] at a <;> simp only [an] at hv
 case t=>exact hv.qT
 case ref=>obtain⟨b,_,rfl⟩:=hv;exact⟨rfl,rfl⟩
 case el=>obtain⟨_,_,_,_,_,rfl⟩:=hv;exact⟨rfl,rfl⟩
 case own=>exact kF hs hv
 case part=>obtain⟨_,_,_,_,_,_,_,rfl,_⟩:=hv;exact⟨rfl,rfl⟩
 case row=>exact hs.gone _ _ _ hv
 case rel=>obtain⟨_,_,_,_,_,rfl⟩:=hv;exact⟨rfl,rfl⟩
 case fn=>obtain⟨_,_,rfl,_⟩:=hv;exact⟨rfl,rfl⟩
theorem yo(hs:HS c w h ρ O){v:AV}{u:Value}(hv:an w A ρ v u)(a:(ic v).all qn=true):aC w A ρ (ic v) u.cells.toList/\∀y∈u.cells.toList,y.oneCell'=true/\y.cells= #[y]:=by
 have one:ic v= [v]->aC w A ρ (ic v) u.cells.toList/\∀y∈u.cells.toList,y.oneCell'=true/\y.cells= #[y]:=by intro e;rw [e] at a⊢;simp only [WV,ZG,Yb] at a;have h1:=So hs hv a;rw [h1.2];refine⟨by simp only [aC];exact⟨u,[],rfl,hv,rfl⟩, ?_⟩;intro y hy;simp at hy;subst hy;exact h1
 cases v
 case agg vs=>simp only [an] at hv;obtain⟨d,rfl,h1,b⟩:=hv;exact⟨by simpa [ic,Value.cells] using h1,by simpa [Value.cells] using b⟩
 all_goals exact one rfl
end
open Go
section
variable {P:Program} {w w':World} {A A':Nat->Prop} {c:Ctx} {ρ:Id->Option Value} {O:Id->Option Nat} {s:St} {cc:Option Bool} {h:Id->Option ab}
theorem uK{b:Nat}{arr:Array Value}{t:TypeId}{a:Nat×Nat}(hb:w.heap[b]? =some (.cells arr t a))(cs:Array Value)(p:Nat):(w.setRow b cs).cell? ⟨b,p,none⟩=cs[p]?:=by simp only [World.cell?,setRow_heap w b arr cs t a hb];rfl
theorem kU{b:Nat}{arr:Array Value}{t:TypeId}{a:Nat×Nat}(hb:w.heap[b]? =some (.cells arr t a))(p:Nat):w.cell? ⟨b,p,none⟩=arr[p]?:=by simp only [World.cell?,hb];rfl
theorem rq(w:World)(b:Nat)(cs:Array Value):(w.setRow b cs).heap.size=w.heap.size:=by simp [World.setRow]
theorem tp{d:Type}(off:Nat)(new a:List d)(e:off+new.length<=a.length)(p:Nat):(cd off new a)[p]? =if off<=p/\p < off+new.length then new[p - off]? else a[p]?:=by
 unfold cd;rw [VJ];have h1:(a.take off).length=off:=by rw [Wb];omega
 by_cases h:p < off
 .rw [WJ (by omega),if_neg (by omega),XT,if_pos h]
 .rw [Wn (by omega),h1];by_cases b:p < off+new.length
  .rw [WJ (by omega),if_pos ⟨by omega,b⟩]
  .rw [Wn (by omega),if_neg (by omega),XU];congr 1;omega
theorem rf{b:Type}(off:Nat)(new a:List b)(d:off+new.length<=a.length):(cd off new a).length=a.length:=by simp only [cd,Ws,Wb,Xd];omega
theorem aX.lA{ah:Nat}:∀{l:List T} {vs:List Value} {off:Nat},aR w A l vs->(∀j v,vs[j]? =some v->w.cell? ⟨ah,off+j,none⟩=some v)->aX w A ah off l
 | [],_,_,_,_=>by simp [aX]
 | x::l,vs,off,⟨v,r,e,h1,a⟩,hv=>by subst e;simp only [aX];refine⟨⟨v,by simpa using hv 0 v rfl,h1⟩,aX.lA a λj u b=> ?_⟩;have:=hv (j+1) u (by simpa using b);rw [show off+1+j=off+ (j+1) by omega];exact this
theorem aX.cells{ah:Nat}(a:∀b,A b->A' b/\w'.heap[b]? =w.heap[b]?):∀{cs:List T} {off:Nat},(∀j,j < cs.length->w'.cell? ⟨ah,off+j,none⟩=w.cell? ⟨ah,off+j,none⟩)->aX w A ah off cs->aX w' A' ah off cs
 | [],_,_,_=>by simp [aX]
 | x::cs,off,d,e=>by
  simp only [aX] at e⊢;obtain⟨⟨v,h1,f⟩,g⟩:=e;refine⟨⟨v, ?_,aB.mono a x v f⟩,aX.cells a (λj i=> ?_) g⟩
  .have:=d 0 (by simp);simp only [X7] at this;rw [this];exact h1
  .have:=d (j+1) (by simp;omega);rw [show off+1+j=off+ (j+1) by omega];exact this
theorem aX.append{ah:Nat}:∀{a b:List T} {off:Nat},aX w A ah off a->aX w A ah (off+a.length) b->aX w A ah off (a++b)
 | [],b,off,_,h=>by simpa using h
 | x::a,b,off,h,d=>by
  simp only [aX,Vf] at h⊢;refine⟨h.1,aX.append h.2 ?_⟩;have:off+1+a.length=off+ (x::a).length:=by simp;omega
  rw [this];exact d
theorem aX.take{ah:Nat}:∀{cs:List T} {off:Nat},aX w A ah off cs->∀n,aX w A ah off (cs.take n)
 | _,_,_,0=>by simp [aX]
 | [],_,_,n+1=>by simp [aX]
 | x::cs,off,h,n+1=>by simp only [aX,YE] at h⊢;exact⟨h.1,aX.take h.2 n⟩
theorem aZ.cells{ah sz:Nat}(d:∀b,A b->A' b/\w'.heap[b]? =w.heap[b]?):∀{xs:List (List T)} {off:Nat},(∀p,off<=p->p < off+xs.length * sz->w'.cell? ⟨ah,p,none⟩=w.cell? ⟨ah,p,none⟩)->aZ w A ah sz off xs->aZ w' A' ah sz off xs
 | [],_,_,_=>by simp [aZ]
 | cs::xs,off,f,a=>by
  simp only [aZ] at a⊢;have e:(cs::xs).length * sz=sz+xs.length * sz:=by simp [Wm];omega
  refine⟨a.1,aX.cells d (λj i=>f _ (by omega) (by rw [e];omega)) a.2.1,aZ.cells d (λp h1 g=>f p (by omega) (by rw [e];omega)) a.2.2⟩
theorem aZ.set{ah sz:Nat}(g:∀b,A b->A' b/\w'.heap[b]? =w.heap[b]?):∀{xs:List (List T)} {off k:Nat} {new:List T},aZ w A ah sz off xs->k < xs.length->new.length=sz->aX w' A' ah (off+k * sz) new->
  (∀p,off<=p->p < off+xs.length * sz->¬(off+k * sz<=p/\p < off+k * sz+sz)->w'.cell? ⟨ah,p,none⟩=w.cell? ⟨ah,p,none⟩)->aZ w' A' ah sz off (xs.set k new)
 | [],_,_,_,_,i,_,_,_=>by simp at i
 | cs::xs,off,0,new,d,_,l,a,f=>by
  simp only [aZ,Zq] at d⊢;have e:(cs::xs).length * sz=sz+xs.length * sz:=by simp [Wm];omega
  exact⟨l,by simpa using a,aZ.cells g (λp h1 m=>f p (by omega) (by rw [e];omega) (by omega)) d.2.2⟩
 | cs::xs,off,k+1,new,d,i,l,a,f=>by
  simp only [aZ,Yc] at d⊢;have e:(cs::xs).length * sz=sz+xs.length * sz:=by simp [Wm];omega
  have e2:(k+1) * sz=sz+k * sz:=by rw [Wm];omega
  refine⟨d.1,aX.cells g (λj o=>f _ (by omega) (by rw [e];omega) (by rw [e2];omega)) d.2.1,aZ.set g d.2.2 (by simpa using i) l ?_ (λp h1 m n=>f p (by omega) (by rw [e];omega) (by rw [e2];omega))⟩;rw [show off+sz+k * sz=off+ (k+1) * sz by rw [e2];omega];exact a
theorem aC.cd{as l:List AV}{vs us:List Value}(h:aC w A ρ as vs)(a:aC w A ρ l us)(off:Nat):aC w A ρ (cd off l as) (cd off us vs):=by unfold Aev.cd;have:=a.length;rw [this];exact((h.take off).append a).append (h.drop _)
theorem aX.cd{ah base off:Nat}{cs l:List T}(h1:aX w A ah base (cs.take off))(a:aX w A ah (base+off) l)(b:aX w A ah (base+off+l.length) (cs.drop (off+l.length)))(d:off<=cs.length):aX w A ah base (cd off l cs):=by
 unfold Aev.cd;rw [VJ];have lt:(cs.take off).length=off:=by rw [Wb];omega
 exact aX.append h1 (aX.append (by rw [lt];exact a) (by rw [lt];exact b))
theorem Ab{t:TypeId}(e:bV P t=true){b off:Nat}{arr:Array Value}{tt:TypeId}{v:Value}(hb:w.heap[b]? =some (.cells arr tt (0,0)))(d:v.cells.size=P.cellsOf t)(a:off+v.cells.toList.length<=arr.size)
  (h1:∀u∈v.cells.toList,u.oneCell'=true):(storeVar t ⟨b,off,none⟩ v).run P w= .ok () (w.setRow b (cd off v.cells.toList arr.toList).toArray):=by
 unfold storeVar;simp only [Vz,jw e,Vm,d,ne_eq,not_true_eq_false,if_false];have:=run_storeCells_at P b off tt v.cells.toList 0 arr w hb (by simpa using a) h1;simp only [X7] at this;rw [this];rfl
theorem Ie{v:AV}{p:Id×ab}(a:p∈ik h v):p.1∈v.ids:=by
 unfold ik at a;split at a
 .split at a
  .simp only [Vk] at a;subst a;simp [AV.ids]
  .cases a
 .split at a
  .simp only [Vk] at a;subst a;simp [AV.ids]
  .cases a
 .split at a
  .split at a
   .simp only [Vk] at a;subst a;simp [AV.ids]
   .cases a
  .cases a
 .cases a
theorem Ih:∀{vs:List AV} {p:Id×ab},p∈nI h vs->p.1∈b8 vs
 | [],p,a=>by cases a
 | v::vs,p,a=>by
  simp only [nI,Vr] at a;simp only [b8,Vr];rcases a with a | a
  .exact .inl (Ie a)
  .exact .inr (Ih a)
theorem Ik{v:AV}{p:Id×ab}(a:p∈gY h v):p.1∈v.ids:=by
 unfold gY at a;split at a
 .simp only [AV.ids];exact Ih a
 .exact Ie a
theorem ei:∀{us:aH} {h:Id->Option ab} {i:Id},(∀p∈us,p.1≠i)->aL h us i=h i
 | [],_,_,_=>rfl
 | (j,b)::us,h,i,a=>by rw [dA,ei (λp d=>a p (Vc _ d)),ar _ _ (λe=>a (j,b) Vb e.symm)]
theorem wN:∀{us:aH} {h:Id->Option ab} {i:Id} {b:ab},(∀p∈us,p.1≠i)->aL (aE h i (some b)) us=aE (aL h us) i (some b)
 | [],_,_,_,_=>rfl
 | (j,x)::us,h,i,b,d=>by
  rw [dA,dA,<-wN (λp f=>d p (Vc _ f))];congr 1;funext k;have:j≠i:=λe=>d (j,x) Vb e;by_cases a:k=j
  .subst a;rw [aF,ar _ _ this,aF]
  .by_cases e2:k=i
   .subst e2;rw [ar _ _ a,aF,aF]
   .rw [ar _ _ a,ar _ _ e2,ar _ _ e2,ar _ _ a]
theorem HS.sO{us:aH}(hs:HS c w h ρ O)(a:ix h us):
  ∃O',Le w ρ O w ρ O'/\HS c w (aL h us) ρ O'/\(∀i,O' i=O i\/O' i=none)/\(∀p∈us,O' p.1=none)/\∀i,(∀p∈us,p.1≠i)->O' i=O i:=HS.Ib hs a
theorem Ag{b:Nat}{i:Id}(hi:O i=some b)(cs:Array Value):Le w ρ O (w.setRow b cs) ρ O:=
 Le.write hi rfl rfl rfl (rq w b cs) λk a=>setRow_other w b k cs a
theorem cT.put{t:TypeId}{sz k off b o L cap:Nat}{bb:Bool}{xs J:List (List T)}{l:List T}{d:Value}{Q:Nat->Prop}(R:cT w A sz bb xs (.slice (some ⟨b,o,none⟩) L cap) Q)(hy:bo k off l xs=some J)(S:bV P t=true)
  (K:l.length=P.cellsOf t) (B:aR w A l d.cells.toList) (M:∀u∈d.cells.toList,u.oneCell'=true/\u.cells= #[u]):
  ∃cs,Q b/\(storeVar t ⟨b,o+k * sz+off,none⟩ d).run P w= .ok () (w.setRow b cs)/\
   ∀A' z,(∀m,A m->A' m/\(w.setRow b cs).heap[m]? =w.heap[m]?)->z b->cT (w.setRow b cs) A' sz bb J (.slice (some ⟨b,o,none⟩) L cap) z:=by
 obtain⟨a',cap',q1,V,W,X,F⟩:=R;simp only [WG] at q1;obtain⟨rfl,rfl,rfl⟩:=q1;unfold bo at hy;cases g:xs[k]? with
 | none=>simp [g] at hy
 | some cs=>
  simp only [g] at hy;split at hy
  .rename_i n;simp only [U7] at hy;subst hy;have D:k < xs.length:=(Vi.1 g).1;rcases F with F | ⟨ah,off',arr,I,G,Y,r,Z,y⟩
   .omega
   .simp only [U7,Wr] at G;obtain⟨rfl,rfl,_⟩:=G;obtain⟨E,v⟩:=y.get g;have gl:=B.length;have N:(k+1) * sz<=cap * sz:=V5 _ (by omega);have e2:(k+1) * sz=k * sz+sz:=Wm _ _;have e:o+k * sz+off+d.cells.toList.length<=arr.size:=by omega
    have H:=Ab (P:=P) S r (by rw [<-VH,gl,K]) e (λu U=>(M u U).1);refine⟨_,Y,H,λA' z f C=> ?_⟩;have x:(xs.set k (cd off l cs)).length=xs.length:=by simp
    refine⟨some ⟨b,o,none⟩,cap,by rw [x],by rw [x];exact V,W,X, .inr ⟨b,o,_,I,rfl,C,setRow_heap w b arr _ I (0,0) r, ?_, ?_⟩⟩
    .have:=rf (o+k * sz+off) d.cells.toList arr.toList (by simpa using e);simp only [WX];rw [this];simpa using Z
    .have a:∀p,(w.setRow b (cd (o+k * sz+off) d.cells.toList arr.toList).toArray).cell? ⟨b,p,none⟩=if o+k * sz+off<=p/\p < o+k * sz+off+d.cells.toList.length then d.cells.toList[p - (o+k * sz+off)]? else w.cell? ⟨b,p,none⟩:=by
      intro p;rw [uK r,XY,tp _ _ _ (by simpa using e),kU r];simp
     have q:(cd off l cs).length=sz:=by rw [rf off l cs n,E]
     refine aZ.set f y D q ?_ ?_
     .refine aX.cd (aX.cells f (λj i=> ?_) (v.take off)) ?_ ?_ (by omega)
      .have lt:(cs.take off).length=off:=by rw [Wb];omega
       rw [lt] at i;rw [a,if_neg (by omega)]
      .refine aX.lA (aR.mono f _ _ B) (λj u i=> ?_);have hj':j < d.cells.toList.length:=(Vi.1 i).1;rw [a,if_pos (by omega)];rw [show o+k * sz+off+j - (o+k * sz+off)=j by omega];exact i
      .have:=v.drop (off+l.length);rw [show o+k * sz+off+l.length=o+k * sz+ (off+l.length) by omega];refine aX.cells f (λj i=> ?_) this;rw [a,if_neg (by omega)]
     .intro p h1 h2 h3;rw [a,if_neg (by omega)]
  .simp at hy
theorem y8{n:Nat}{p:Bool×List (List T)}:∀{es:List Row},bA n es=some p->∃k e,es[k]? =some e/\e.n=n/\e.own=some p/\∀q,dJ n q es=es.set k {e with own:=q}
 | [],h=>by simp [bA] at h
 | e::es,h=>by
  unfold bA at h;by_cases c:e.n=n
  .rw [if_pos c] at h;exact⟨0,e,rfl,c,h,λq=>by simp [dJ,c]⟩
  .rw [if_neg c] at h;obtain⟨k,e',h1,a,b,d⟩:=y8 h;exact⟨k+1,e',by simpa using h1,a,b,λq=>by simp [dJ,c,d]⟩
theorem vL{es:List Row}(h:(es.map (·.n)).Nodup){j k:Nat}{x y:Row}(d:es[j]? =some x)(f:es[k]? =some y)(e:x.n=y.n):j=k:=by
 have h1:(es.map (·.n))[j]? =some x.n:=by simp [d]
 have b:(es.map (·.n))[k]? =some x.n:=by simp [f,e]
 obtain⟨g,a⟩:=Vi.1 h1;obtain⟨i,e2⟩:=Vi.1 b;exact(List.getElem_inj h).1 (a.trans e2.symm)
theorem JI:∀{l:List Nat} {k x:Nat},l.Nodup->x∉l->(l.set k x).Nodup
 | [],_,_,_,_=>by simp
 | a::l,0,x,b,d=>by simp only [Zq,WC,Vo,not_or] at b d⊢;exact⟨d.2,b.2⟩
 | a::l,k+1,x,b,d=>by
  simp only [Yc,WC,Vo,not_or] at b d⊢;refine⟨λhm=> ?_,JI b.2 d.2⟩;rcases VM hm with h | h
  .exact b.1 h
  .exact d.1 h.symm
theorem Qj{O':Id->Option Nat}(hs:HS c w h ρ O)(a:Id->Option Id)(d:∀k b,O' k=some b->∃x,a k=some x/\O x=some b)(e:∀k f x,a k=some x->a f=some x->k=f):∀i j b,O' i=some b->O' j=some b->i=j:=by intro i j b hi g;obtain⟨x,l,x2⟩:=d i b hi;obtain⟨y,m,n⟩:=d j b g;have:=hs.inj x y b x2 n;subst this;exact e i j x l m
theorem HS.R7{i j:Id}{b bb:Bool}{sz aD rsz nx k ah:Nat}{es:List Row}{e:Row}{xs:List (List T)}{G:Value}{cs:Array Value}(hs:HS c w h ρ O)(hi:h i=some (.rows b sz aD rsz nx es))(U:h j=some (.sl false rsz bb xs))(R:es[k]? =some e)(hv:ρ j=some G)
  {a:Option Addr} {cap:Nat} (hρ:ρ i=some (.slice a es.length cap)) {off:Nat} {arr:Array Value} {t:TypeId} (ha:a=some ⟨ah,off,none⟩) (hO:O i=some ah) (hb:w.heap[ah]? =some (.cells arr t (0,0))) (hfit:off+cap * sz<=arr.size)
  (Y:cs= (cd (off+k * sz+aD) [G] arr.toList).toArray):
  ∃ρ' O',Le w ρ O (w.setRow ah cs) ρ' O'/\HS c (w.setRow ah cs) (aE (aE h j (some .dead)) i (some (.rows b sz aD rsz (nx+1) (es.set k ⟨nx,e.cs,some (bb,xs)⟩)))) ρ' O':=by
 obtain⟨a',cap',r1,r2,r3,⟨n1,X,n3,n4⟩,r5⟩:=hs.ah i _ hi;rw [hρ] at r1;simp only [U7,WG] at r1;obtain⟨rfl, -,rfl⟩:=r1;have hlt:k < es.length:=(Vi.1 R).1;have M:cr w (AA c w O) ρ O i ah sz aD rsz off es:=by
  rcases r5 with r5 | ⟨blk',off',arr',t',q1,q2,q3,q4,q5⟩
  .omega
  .rw [ha] at q1;simp only [U7,Wr] at q1;obtain⟨rfl,rfl,_⟩:=q1;exact q5
 have hen:e.n < nx:=X e (Va R);have D:=hs.real (i:=i) (by rw [hi];simp);have L:=hs.real (i:=j) (by rw [U];simp);have Z:j≠i:=λe=>by rw [e,hi] at U;cases U
 have K:∀n,Id.g i n≠j:=λn=>aP L;obtain⟨v',s1,s2,_⟩:=hs.ah j _ U;rw [hv] at s1;cases s1;have F:=M.get R;have hcol:=F.2.1;have hbnd:(k+1) * sz<=cap * sz:=V5 _ (by omega);have e2:(k+1) * sz=k * sz+sz:=Wm _ _;have I:off+k * sz+aD+ [G].length<=arr.toList.length:=by simp;omega
 let ρ':Id->Option Value:=aE ρ (.g i nx) (some G);let O':Id->Option Nat:=λx=>if x= .g i nx then O j else if x=j then none else if x= .g i e.n then none else O x;have C:∀x,x≠ .g i nx->x≠j->x≠ .g i e.n->O' x=O x:=λx h1 E N=>by simp only [O',if_neg h1,if_neg E,if_neg N]
 have hOn:O' (.g i nx)=O j:=by simp only [O',if_true]
 have hOj:O' j=none:=by simp only [O',if_neg (K nx).symm,if_true]
 have hOe:O' (.g i e.n)=none:=by
  have h1:Id.g i e.n≠ .g i nx:=by intro h;cases h;omega
  simp only [O',if_neg h1,if_neg (K e.n),if_true]
 have H:∀x d,O' x=some d->(x= .g i nx/\O j=some d)\/(x≠ .g i nx/\x≠j/\x≠ .g i e.n/\O x=some d):=by
  intro x d l;simp only [O'] at l;split at l
  .exact .inl ⟨by assumption,l⟩
  .split at l
   .cases l
   .split at l
    .cases l
    .exact .inr ⟨by assumption,by assumption,by assumption,l⟩
 have le:Le w ρ O (w.setRow ah cs) ρ' O':=by
  refine⟨rfl,rfl,rfl,by rw [rq];exact Vq _,λx u l=> ?_,λd _ hn=>setRow_other w ah d _ λe=>hn i (e▸hO),λx d l=> ?_⟩
  .by_cases e:x= .g i nx
   .subst e;rw [n3 nx (Vq _)] at l;cases l
   .simp only [ρ'];rw [ar _ _ e];exact l
  .rcases H x d l with⟨_,h⟩ | ⟨_,_,_,h⟩
   .exact .inl ⟨j,h⟩
   .exact .inl ⟨x,h⟩
 have r:∀x d,x≠i->O x=some d->(w.setRow ah cs).heap[d]? =w.heap[d]?:=λx d l o=>setRow_other w ah d _ λe=>l (hs.inj x i ah (e▸o) hO);refine⟨ρ',O',le,hs.o7 le (λx y l=> ?_) (λx W l=> ?_) (λx n=> ?_) (λx n l=> ?_) (λx n u Q=> ?_) ?_ (λx d l=> ?_)⟩
 .by_cases q:x=i
  .subst q;rw [aF] at l;cases l;right;have S:(es.set k ⟨nx,e.cs,some (bb,xs)⟩).length=es.length:=by simp
   refine⟨a,cap, ?_,by rw [S];exact r2,r3,⟨?_,λf B=> ?_,λn hn=> ?_,λn d o=> ?_⟩, .inr ⟨ah,off,cs,t,ha, ?_,setRow_heap w ah arr _ t (0,0) hb, ?_, ?_⟩⟩
   .rw [S];simp only [ρ'];rw [ar _ _ (aP D).symm];exact hρ
   .rw [X8];refine JI n1 ?_;intro hm;obtain⟨f,B,e⟩:=VK.1 hm;simp only at e;have:=X f B;omega
   .rcases VM B with B | rfl
    .have:=X f B;omega
    .simp
   .have h1:Id.g x n≠ .g x nx:=by intro h;cases h;omega
    simp only [ρ'];rw [ar _ _ h1];exact n3 n (by omega)
   .rcases H _ d o with⟨h,_⟩ | ⟨h1,_,N,h4⟩
    .cases h;exact⟨_,List.mem_set hlt _,rfl⟩
    .obtain⟨f,B,J⟩:=n4 n d h4;obtain⟨m,hm⟩:=Ym.1 B;have hmk:m≠k:=λe'=>by rw [e',R] at hm;cases hm;rw [J] at N;exact N rfl
     refine⟨f,Ym.2 ⟨m, ?_⟩,J⟩;rw [WE,if_neg (Zn hmk)];exact hm
   .rw [C x (aP D).symm (Zn Z) (aP D).symm];exact hO
   .rw [Y,WX,rf _ _ _ I];simpa using hfit
   .have v:∀p,(w.setRow ah cs).cell? ⟨ah,p,none⟩=if off+k * sz+aD<=p/\p < off+k * sz+aD+1 then some G else w.cell? ⟨ah,p,none⟩:=by
     intro p;rw [uK hb,Y,XY,tp _ _ _ I,kU hb];by_cases V:off+k * sz+aD<=p/\p < off+k * sz+aD+1
     .rw [if_pos (by simpa using V),if_pos V,show p - (off+k * sz+aD)=0 by omega];rfl
     .rw [if_neg (by simpa using V),if_neg V];simp
    refine cr.set (λd o=>le.A d o) hlt (λp p1 p2 p3=>by rw [v,if_neg (by omega)]) (λm f hm B=> ?_) ?_ M
    .have J:f.n≠e.n:=λe'=>hm (vL n1 B R e');have hfx:f.n≠nx:=by have:=X f (Va B);omega
     have h1:Id.g x f.n≠ .g x nx:=by intro h;simp only [Id.g.injEq] at h;exact hfx h.2
     have E:Id.g x f.n≠ .g x e.n:=by intro h;simp only [Id.g.injEq] at h;exact J h.2
     refine⟨by simp only [ρ'];exact ar _ _ h1,C _ h1 (K _) E,λd o=>r _ d (aP D) o⟩
    .refine⟨F.1,hcol,λm y hm hy=> ?_,G,by rw [v,if_pos (by omega)],by simp only [ρ'];exact aF _ _ _, ?_⟩
     .obtain⟨u,g1,g2⟩:=F.2.2.1 m y hm hy;have hml:m < sz:=by have:=(Vi.1 hy).1;rw [F.1] at this;exact this
      exact⟨u,by rw [v,if_neg (by omega)];exact g1,aB.mono (λd o=>le.A d o) y u g2⟩
     .simp only;refine cT.mono (λd o=>le.A d o) (λd o=> ?_) s2;simp only [VF,if_false] at o;rw [hOn];exact⟨o,r j d Z o⟩
  .rw [ar _ _ q] at l;by_cases e3:x=j
   .subst e3;rw [aF] at l;cases l;exact .inr ⟨⟨G,by simp only [ρ'];rw [ar _ _ (K nx).symm];exact hv,kF hs hv⟩,hOj⟩
   .rw [ar _ _ e3] at l;have hrx:=hs.real (i:=x) (by rw [l];simp);refine .inl ⟨l,C x (aP hrx).symm e3 (aP hrx).symm,λd o=>r x d q o,λn=> ?_⟩;have h1:∀m,Id.g x n≠ .g i m:=by intro m h;cases h;exact q rfl
    exact⟨by simp only [ρ'];exact ar _ _ (h1 _),C _ (h1 _) (aP L) (h1 _),λd o=>r _ d (aP D) o⟩
 .by_cases q:x=i
  .subst q;rw [aF] at l;cases l
  .rw [ar _ _ q] at l;by_cases e3:x=j
   .subst e3;rw [aF] at l;cases l
   .rw [ar _ _ e3] at l;have:=hs.cC x W l;refine⟨?_, ?_⟩
    .simp only [ρ'];rw [ar _ _ (aP W).symm];exact this.1
    .rw [C x (aP W).symm e3 (aP W).symm];exact this.2
 .rw [ar _ _ (aP D),ar _ _ (aP L)];exact hs.eH x n
 .by_cases q:x=i
  .subst q;rw [aF] at l;cases l
  .rw [ar _ _ q] at l;by_cases e3:x=j
   .subst e3;rw [aF] at l;cases l
   .rw [ar _ _ e3] at l;have:=hs.fO x n l;have h1:∀m,Id.g x n≠ .g i m:=by intro m h;cases h;exact q rfl
    refine⟨?_, ?_⟩
    .simp only [ρ'];rw [ar _ _ (h1 _)];exact this.1
    .rw [C _ (h1 _) (aP L) (h1 _)];exact this.2
 .by_cases q:Id.g x n= .g i nx
  .rw [q] at Q;simp only [ρ',aF,U7] at Q;subst Q;exact kF hs hv
  .simp only [ρ'] at Q;rw [ar _ _ q] at Q;exact hs.gone x n u Q
 .refine Qj hs (λx=>if x= .g i nx then some j else if x=j then none else some x) (λx d l=> ?_) (λx y z l hy=> ?_)
  .rcases H x d l with⟨h1,E⟩ | ⟨h1,E,_,N⟩
   .exact⟨j,by rw [if_pos h1],E⟩
   .exact⟨x,by rw [if_neg h1,if_neg E],N⟩
  .split at l <;> split at hy
   .rename_i h1 E;rw [h1,E]
   .split at hy
    .cases hy
    .simp only [U7] at l hy;subst l;rename_i h;exact(h hy).elim
   .split at l
    .cases l
    .simp only [U7] at l hy;subst hy;rename_i h;exact(h l).elim
   .split at l
    .cases l
    .split at hy
     .cases hy
     .simp only [U7] at l hy;rw [l,hy]
 .rw [rq];rcases H x d l with⟨_,h⟩ | ⟨_,_,_,h⟩
  .exact hs.lt _ d h
  .exact hs.lt _ d h
theorem HS.UY{i:Id}{n r:Nat}{b:Bool}{sz aD rsz nx:Nat}{es:List Row}{p:Bool×List (List T)}{F:List (List T)}{v:Value}{cs:Array Value}(hs:HS c w h ρ O)(hi:h i=some (.rows b sz aD rsz nx es))(hf:bA n es=some p)(M:O (.g i n)=some r)
  (hv:ρ (.g i n)=some v) (R:cT (w.setRow r cs) (AA c (w.setRow r cs) O) rsz p.1 F v (λd=>O (.g i n)=some d)):
  HS c (w.setRow r cs) (aE h i (some (.rows b sz aD rsz nx (dJ n (some (p.1,F)) es)))) ρ O:=by
 have le:Le w ρ O (w.setRow r cs) ρ O:=Ag M _;have H:=hs.real (i:=i) (by rw [hi];simp);have o:∀x d,x≠ .g i n->O x=some d->(w.setRow r cs).heap[d]? =w.heap[d]?:=λx d j l=>setRow_other w r d _ λe=>j (hs.inj x _ r (e▸l) M);obtain⟨k,e,C,G,heo,K⟩:=y8 hf;refine hs.o7 le (λx y j=> ?_) (λx hr j=> ?_) (λx m=> ?_) (λx m j=> ?_) hs.gone hs.inj (λx d l=>by rw [rq];exact hs.lt x d l)
 .by_cases z:x=i
  .subst z;rw [aF] at j;cases j;right;obtain⟨a,cap,r1,r2,r3,⟨S,U,n3,n4⟩,L⟩:=hs.ah x _ hi;rw [K];have D:(es.set k {e with own:=some (p.1,F)}).length=es.length:=by simp
   have E:(es.set k {e with own:=some (p.1,F)}).map (·.n)=es.map (·.n):=by
    rw [X8];refine XL λm=> ?_;rw [WE];split
    .rename_i h;subst h;have:=(Vi.1 C).1;rw [if_pos (by simpa using this)];simp [C]
    .rfl
   refine⟨a,cap,by rw [D];exact r1,by rw [D];exact r2,r3,⟨by rw [E];exact S,λf q=> ?_,n3,λm d l=> ?_⟩, ?_⟩
   .rcases VM q with q | rfl
    .exact U f q
    .exact U e (Va C)
   .obtain⟨f,q,N⟩:=n4 m d l;have:m∈(es.set k {e with own:=some (p.1,F)}).map (·.n):=by rw [E];exact VK.2 ⟨f,q,N⟩
    obtain⟨f',h1,h2⟩:=VK.1 this;exact⟨f',h1,h2⟩
   .rcases L with L | ⟨ah,off,arr,t,q1,V,q3,q4,W⟩
    .exact .inl L
    .have B:(w.setRow r cs).heap[ah]? =w.heap[ah]?:=o x ah (aP H).symm V;refine .inr ⟨ah,off,arr,t,q1,V,by rw [B];exact q3,q4, ?_⟩;have J:=W.get C;refine cr.set (λd l=>le.A d l) (Vi.1 C).1 (λ_ _ _ _=>nu B) (λm f hm q=>⟨rfl,rfl,λd l=>o _ d (λh=> ?_) l⟩) ?_ W
     .simp only [Id.g.injEq] at h;exact hm (vL S q C (by rw [h.2,G]))
     .obtain⟨Y,Z,a3,u,a4,I,a7⟩:=J;refine⟨Y,Z,λm y hm hy=> ?_,u,by rw [nu B];exact a4,I, ?_⟩
      .obtain⟨X,g1,g2⟩:=a3 m y hm hy;exact⟨X,by rw [nu B];exact g1,aB.mono (λd l=>le.A d l) y X g2⟩
      .simp only;rw [G] at I⊢;rw [I] at hv;cases hv;exact R
  .rw [ar _ _ z] at j;have Q:=hs.real (i:=x) (by rw [j];simp);refine .inl ⟨j,rfl,λd l=>o x d (aP Q).symm l,λm=>⟨rfl,rfl,λd l=>o _ d (λh=> ?_) l⟩⟩;simp only [Id.g.injEq] at h;exact z h.1
 .by_cases z:x=i
  .subst z;rw [aF] at j;cases j
  .rw [ar _ _ z] at j;exact hs.cC x hr j
 .rw [ar _ _ (aP H)];exact hs.eH x m
 .by_cases z:x=i
  .subst z;rw [aF] at j;cases j
  .rw [ar _ _ z] at j;exact hs.fO x m j
theorem TG{R:Type}{t:TypeId}{a v:AV}{va y:Value}{K:aH->Option R}{r:R}(hs:HS c w s.h ρ O)(J:an w (AA c w O) ρ a va)(hx:an w (AA c w O) ρ v y)(f:jz P s t a v K=some r):
  ∃us w' ρ' O',K us=some r/\(Instr.storeAt t va y).run P w= .ok () w'/\Le w ρ O w' ρ' O'/\HS c w' (aL s.h us) ρ' O':=by
 unfold jz at f;cases Z:bV P t
 .simp [Z] at f
 simp only [Z,cond_true] at f;split at f
 .rename_i i off;split at f
  .rename_i cs hi;split at f
   .rename_i q;obtain⟨Q,I,c3⟩:=q;obtain⟨b,arr,t',h1,h2,h3,h4,h5,h6⟩:=BE hs hi;simp only [an] at J;obtain⟨H,x,rfl⟩:=J;rw [h1] at x;simp only [U7,Xk,Wr] at x;obtain⟨rfl,_⟩:=x;obtain⟨S,X⟩:=yo hs hx I;have gl:=S.length;have hl:=h4.length;have D:off+y.cells.toList.length<=arr.size:=by rw [gl];simp only [VH] at hl;omega
    have B:=Ab (P:=P) Z h3 (by rw [<-VH,gl,Q]) D (λu hu=>(X u hu).1);have le:Le w ρ O (w.setRow b (cd off y.cells.toList arr.toList).toArray) ρ O:=Ag h2 _;refine⟨_,_,ρ,O,f,by simpa [Instr.storeAt,Instr.sureAddr] using B,le, ?_⟩;rw [eP];refine hs.write h2 le (λk f=>setRow_other w b k _ f) _ ?_ (by rw [hi];simp);refine⟨b,_,t',h1,h2,setRow_heap w b arr _ t' (0,0) h3, ?_, ?_⟩
    .have m:∀(as:List AV) (vs:List Value),aC w (AA c w O) ρ as vs->aC _ _ ρ as vs:=λas vs hr=>aC.mono (λb hb=>le.A b hb) le.eU as vs hr;exact aC.cd (m _ _ h4) (m _ _ S) off
    .intro u hu;simp only [cd,Vr] at hu;rcases hu with(hu | hu) | hu
     .exact h5 u (Xe hu)
     .exact X u hu
     .exact h5 u (W1 hu)
   .simp at f
  .simp at f
 .rename_i i sz k off;split at f
  .rename_i g bb xs hi;obtain⟨l,hsn,f⟩:=U8.1 f;split at f
   .rename_i q;obtain⟨rfl,Q,I⟩:=q;replace f:=aO f (.inl rfl);obtain⟨ys,hy,f⟩:=f;have E:∀p∈gY s.h v,p.1≠i:=by
     intro p Y e;have:=Ik Y;rw [e] at this;simp only [List.contains_eq_mem,decide_eq_false_iff_not] at I;exact I this
    obtain⟨G,cV,N,o1,o2,o3⟩:=HS.sO hs (CD (h:=s.h) v);obtain⟨S,X⟩:=Er hs hx hsn cV o1 o2;have M:aL s.h (gY s.h v) i=some (.sl false g bb xs):=by rw [ei E];exact hi
    obtain⟨vv,q0,a',cap',q1,q2,q3,q4,q5⟩:=oa N M;simp only [an] at J;obtain⟨b,o,L,cap,x,rfl⟩:=J;rw [q0] at x;simp only [U7] at x;subst x;simp only [WG] at q1;obtain⟨rfl,rfl,rfl⟩:=q1;unfold bo at hy;cases W:xs[k]? with
    | none=>simp [W] at hy
    | some cs=>
     simp only [W] at hy;split at hy
     .rename_i hfit0;simp only [U7] at hy;subst hy;have hlt:k < xs.length:=(Vi.1 W).1;rcases q5 with q5 | ⟨ah,off',arr,t',q6,q7,q8,q9,q10⟩
      .omega
      .simp only [U7,Wr] at q6;obtain⟨rfl,rfl,_⟩:=q6;simp only [VF,if_false] at q7;obtain⟨lcs,hcs⟩:=q10.get W;have gl:=S.length;have hbnd:(k+1) * g<=cap * g:=V5 _ (by omega);have e2:(k+1) * g=k * g+g:=Wm _ _;have D:o+k * g+off+y.cells.toList.length<=arr.size:=by omega
       have B:=Ab (P:=P) Z q8 (by rw [<-VH,gl,Q]) D (λu hu=>(X u hu).1);have F:Le w ρ G (w.setRow b (cd (o+k * g+off) y.cells.toList arr.toList).toArray) ρ G:=Ag q7 _;refine⟨_,_,ρ,G,f,by simpa [Instr.storeAt,Instr.sureAddr] using B,cV.trans F, ?_⟩;rw [dA,wN E];refine N.write q7 F (λk f=>setRow_other w b k _ f) _ ?_ (by rw [M];simp);refine⟨_,q0, ?_,by simp⟩;have hl2:(xs.set k (cd off l cs)).length=xs.length:=by simp
       refine⟨some ⟨b,o,none⟩,cap,by rw [hl2],by rw [hl2];exact q2,q3,q4, .inr ⟨b,o,_,t',rfl,by simpa using q7,setRow_heap w b arr _ t' (0,0) q8, ?_, ?_⟩⟩
       .have:=rf (o+k * g+off) y.cells.toList arr.toList (by simpa using D);simp only [WX];rw [this];simpa using q9
       .have z:∀p,(w.setRow b (cd (o+k * g+off) y.cells.toList arr.toList).toArray).cell? ⟨b,p,none⟩=if o+k * g+off<=p/\p < o+k * g+off+y.cells.toList.length then y.cells.toList[p - (o+k * g+off)]? else w.cell? ⟨b,p,none⟩:=by
         intro p;rw [uK q8,XY,tp _ _ _ (by simpa using D),kU q8];simp
        have V:∀H,AA c w G H->AA c (w.setRow b (cd (o+k * g+off) y.cells.toList arr.toList).toArray) G H/\(w.setRow b (cd (o+k * g+off) y.cells.toList arr.toList).toArray).heap[H]? =w.heap[H]?:=λH hb'=>F.A H hb';have lrepl:(cd off l cs).length=g:=by rw [rf off l cs hfit0,lcs]
        refine aZ.set V q10 hlt lrepl ?_ ?_
        .refine aX.cd (aX.cells V (λj T=> ?_) (hcs.take off)) ?_ ?_ (by omega)
         .have lt:(cs.take off).length=off:=by rw [Wb];omega
          rw [lt] at T;rw [z,if_neg (by omega)]
         .refine aX.lA (aR.mono V _ _ S) (λj u T=> ?_);have hj':j < y.cells.toList.length:=(Vi.1 T).1;rw [z,if_pos (by omega)];rw [show o+k * g+off+j - (o+k * g+off)=j by omega];exact T
         .have:=hcs.drop (off+l.length);rw [show o+k * g+off+l.length=o+k * g+ (off+l.length) by omega];refine aX.cells V (λj T=> ?_) this;rw [z,if_neg (by omega)]
        .intro p h1 h2 h3;rw [z,if_neg (by omega)]
     .simp at hy
   .simp at f
  .rename_i bb g aD rsz nx es hi;split at f
   .rename_i j;split at f
    .rename_i rsz' H xs T;split at f
     .rename_i q;obtain⟨rfl,rfl,rfl,Q,I⟩:=q;replace f:=aO f (.inl rfl);obtain⟨e,he,f⟩:=f;obtain⟨a,cap,r1,r2,r3,r4,r5⟩:=hs.ah i _ hi;simp only [an] at J hx;obtain⟨b,o,L,cap',x,rfl⟩:=J;have e1':=x;rw [r1] at x;simp only [U7,WG] at x;obtain⟨rfl,rfl,rfl⟩:=x;have hlt:k < es.length:=(Vi.1 he).1;rcases r5 with r5 | ⟨ah,off',arr,t',q1,q2,q3,q4,q5⟩
      .omega
      .simp only [U7,Wr] at q1;obtain⟨rfl,rfl,_⟩:=q1;have U:=kF hs hx;have hcol:=(q5.get he).2.1;have hbnd:(k+1) * g<=cap * g:=V5 _ (by omega);have e2:(k+1) * g=k * g+g:=Wm _ _;have C:y.cells.toList= [y]:=by rw [U.2]
       have B:=Ab (P:=P) (w:=w) (v:=y) Z q3 (by rw [U.2,Q];rfl) (off:=o+k * g+off) (by rw [C];simp;omega) (λu hu=>by rw [C,Vk] at hu;subst hu;exact U.1);rw [C] at B;obtain⟨ρ',O',le,hs'⟩:=hs.R7 hi T he hx r1 rfl q2 q3 q4 rfl;refine⟨_,_,ρ',O',f,by simpa [Instr.storeAt,Instr.sureAddr] using B,le, ?_⟩;rw [dA,eP];exact hs'
     .simp at f
    .simp at f
   .simp at f
  .simp at f
 .rename_i i sz n k off;split at f
  .rename_i b g aD rsz nx es hi;replace f:=aO f (.inl rfl);obtain⟨p,Y,f⟩:=f;replace f:=U8.1 f;obtain⟨l,hsn,f⟩:=f;split at f
   .rename_i q;obtain⟨rfl,Q,I⟩:=q;replace f:=aO f (.inl rfl);obtain⟨ys,hy,f⟩:=f;have E:∀p∈gY s.h v,p.1≠i:=by
     intro p Y e;have:=Ik Y;rw [e] at this;simp only [List.contains_eq_mem,decide_eq_false_iff_not] at I;exact I this
    obtain⟨G,cV,N,o1,o2,o3⟩:=HS.sO hs (CD (h:=s.h) v);obtain⟨S,X⟩:=Er hs hx hsn cV o1 o2;have M:aL s.h (gY s.h v) i=some (.rows b g aD rsz nx es):=by rw [ei E];exact hi
    obtain⟨vv,q0,q1⟩:=z9 (s:=⟨s.t,aL s.h (gY s.h v)⟩) N M Y;simp only [an] at J;obtain⟨bk,o,L,cap,x,rfl⟩:=J;rw [q0] at x;simp only [U7] at x;subst x;obtain⟨cs,hOb,B,hsl⟩:=q1.put (P:=P) hy Z Q S X;have F:Le w ρ G (w.setRow bk cs) ρ G:=Ag hOb _;refine⟨_,_,ρ,G,f,by simpa [Instr.storeAt,Instr.sureAddr] using B,cV.trans F, ?_⟩;rw [dA,wN E];exact N.UY M Y hOb q0 (hsl _ _ (λd hd=>F.A d hd) hOb)
   .simp at f
  .simp at f
 .simp at f
theorem KC(t:TypeId)(cells:Array Value):(newRow t cells).run P w= .ok ⟨w.heap.size,0,none⟩ (w.alloc (.cells cells t)):=by simp [newRow]
theorem kZ(o:Obj):(w.alloc o).heap[w.heap.size]? =some o:=by show(w.heap.push o)[w.heap.size]? =some o;simp
theorem HS.JB{i:Id}(hs:HS c w h ρ O)(hi:h i=none){cs:List AV}{vs:List Value}(t:TypeId)(hv:aC w (AA c w O) ρ cs vs)(h1:∀u∈vs,u.oneCell'=true/\u.cells= #[u])(hrl:i.real=true:=by rfl):
  Le w ρ O (w.alloc (.cells vs.toArray t)) (aE ρ i (some (.pointer (some ⟨w.heap.size,0,none⟩)))) (aE O i (some w.heap.size))/\
  HS c (w.alloc (.cells vs.toArray t)) (aE h i (some (.box cs))) (aE ρ i (some (.pointer (some ⟨w.heap.size,0,none⟩)))) (aE O i (some w.heap.size)):=by
 have le:=Le.alloc hs hrl hi (.cells vs.toArray t) (.pointer (some ⟨w.heap.size,0,none⟩)) (some w.heap.size) (.inr rfl);refine⟨le,hs.alloc hrl hi _ _ _ (.inr rfl) _ ⟨w.heap.size,vs.toArray,t,by simp,by simp,kZ _, ?_,h1⟩⟩;exact aC.mono (λb hb=>le.A b hb) le.eU _ _ hv
theorem HS.Ry{i:Id}(hs:HS c w h ρ O)(hi:h i=none){cs:List AV}{arr:Array Value}(t:TypeId)(hv:aC w (AA c w O) ρ cs arr.toList)(h1:∀u∈arr.toList,u.oneCell'=true/\u.cells= #[u])(hrl:i.real=true:=by rfl):
  Le w ρ O (w.alloc (.cells arr t)) (aE ρ i (some (.slice (some ⟨w.heap.size,0,none⟩) 1 1))) (aE O i (some w.heap.size))/\
  HS c (w.alloc (.cells arr t)) (aE h i (some (.arr cs))) (aE ρ i (some (.slice (some ⟨w.heap.size,0,none⟩) 1 1))) (aE O i (some w.heap.size)):=by
 have le:=Le.alloc hs hrl hi (.cells arr t) (.slice (some ⟨w.heap.size,0,none⟩) 1 1) (some w.heap.size) (.inr rfl);refine⟨le,hs.alloc hrl hi _ _ _ (.inr rfl) _ ⟨w.heap.size,arr,t,by simp,by simp,kZ _, ?_,h1⟩⟩;exact aC.mono (λb hb=>le.A b hb) le.eU _ _ hv
theorem JS{u:Value}{x:T}(e:pn u=some x):aB w A x u:=by
 cases u <;> simp only [pn,U7,reduceCtorEq] at e
 case slice a l b=>split at e <;> simp_all;subst e;simp [aB]
 case pointer a=>split at e <;> simp_all;subst e;simp [aB]
 case map a=>split at e <;> simp_all;subst e;simp [aB]
 all_goals (subst e;simp [aB])
theorem po:∀{us:List Value} {l:List T},mh us=some l->aR w A l us
 | [],l,e=>by simp only [mh,U7] at e;subst e;rfl
 | u::us,l,e=>by simp only [mh] at e;obtain⟨x,h1,e⟩:=U8.1 e;obtain⟨b,a,e⟩:=U8.1 e;simp only [U7] at e;subst e;exact⟨u,us,rfl,JS h1,po a⟩
theorem oA{t:TypeId}{l:List T}(e:jU P t=some l):∃i z,P.info? t=some i/\i.zero=some z/\mh z.cells.toList=some l:=by
 unfold jU at e;split at e
 .rename_i i hi;split at e
  .rename_i z hz;exact⟨i,z,hi,hz,e⟩
  .simp at e
 .simp at e
theorem PM(off:Nat)(v cells:Array Value)(d:off+v.size<=cells.size):(v.zipIdx.foldl (λcs (x:Value×Nat)=>cs.setIfInBounds (off+x.2) x.1) cells).toList=cd off v.toList cells.toList:=by
 obtain⟨f,b⟩:=Go.Great.foldl_set off v.toList 0 cells;have e:v.zipIdx.foldl (λcs (x:Value×Nat)=>cs.setIfInBounds (off+x.2) x.1) cells= (v.toList.zipIdx 0).foldl (λcs (x:Value×Nat)=>cs.setIfInBounds (off+x.2) x.1) cells:=by rw [<-Array.foldl_toList,Array.toList_zipIdx]
 rw [e];apply XL;intro p;rw [Wl,b p,tp off v.toList cells.toList (by simpa using d)];simp only [X7,VH,Wl];by_cases a:off<=p/\p < off+v.size
 .rw [if_pos ⟨a.1,a.2,by omega⟩,if_pos a]
 .rw [if_neg (by omega),if_neg a]
inductive ux (w:World) (A:Nat->Prop) (ρ:Id->Option Value) (place:Nat->Option (Nat×Nat)):List (Nat×List AV)->List (Nat×Value)->Prop
 | nil:ux w A ρ place [] []
 | cons {off:Nat} {l:List AV} {f:Nat} {v:Value} {ls:List (Nat×List AV)} {vs:List (Nat×Value)} (hp:place f=some (off,l.length)) (hr:aC w A ρ l v.cells.toList) (h1:∀u∈v.cells.toList,u.oneCell'=true/\u.cells= #[u])
   (rest:ux w A ρ place ls vs):ux w A ρ place ((off,l)::ls) ((f,v)::vs)
theorem H3{d:Nat->Option (Nat×Nat)}:∀{j:List (Nat×List AV)} {vs:List (Nat×Value)} {i b:List AV} {cells:Array Value},ux w A ρ d j vs->vA j i=some b->aC w A ρ i cells.toList->(∀u∈cells.toList,u.oneCell'=true/\u.cells= #[u])->
  ∃r,Instr.fill d cells vs=some r/\aC w A ρ b r.toList/\∀u∈r.toList,u.oneCell'=true/\u.cells= #[u]
 | [],_,i,b,cells, .nil,a,hz,h1=>by simp only [vA,U7] at a;subst a;exact⟨cells,rfl,hz,h1⟩
 | (off,l)::j,(f,v)::vs,i,b,cells, .cons t o n m,a,hz,h1=>by
  simp only [vA] at a;split at a
  .rename_i q;have k:=o.length;have y:=hz.length;simp only [VH] at k y;have g:off+v.cells.size<=cells.size:=by omega
   have e:=PM off v.cells cells g;obtain⟨r,p,e2,e3⟩:=H3 (cells:=v.cells.zipIdx.foldl (λcs (x:Value×Nat)=>cs.setIfInBounds (off+x.2) x.1) cells) m a (by
    rw [e];unfold cd;rw [show v.cells.toList.length=l.length by simpa using k];exact((hz.take off).append o).append (hz.drop _)) (by
    intro u hu;rw [e] at hu;simp only [cd,Vr] at hu;rcases hu with(hu | hu) | hu
    .exact h1 u (Xe hu)
    .exact n u hu
    .exact h1 u (W1 hu))
   refine⟨r, ?_,e2,e3⟩;unfold Instr.fill;simp only [t];rw [if_neg (by simp [k];omega)];exact p
  .simp at a
theorem J4{t:TypeId}{f:Nat}{p:Nat×TypeId}(e:vQ P t f=some p)(j:qX P t=true):
  bV P p.2=true/\((∃a,P.underlying t=some (.struct a)/\(a.toList.map λx=>(x.offset,P.cellsOf x.type))[f]? =some (p.1,P.cellsOf p.2))\/
   ∃n e,P.underlying t=some (.array n e)/\p= (f * P.cellsOf e,e)):=by
 unfold vQ at e;split at e
 .rename_i q d;simp only [U7] at e;subst e;obtain⟨a,x,h1,b,g,i⟩:=Cx d;refine⟨i, .inl ⟨a,h1, ?_⟩⟩;rw [VZ,Wl,b];simp [g]
 .split at e
  .rename_i n u d;simp only [U7] at e;subst e;obtain⟨h1,b⟩:=Fs d;exact⟨b, .inr ⟨n,u,h1,rfl⟩⟩
  .simp at e
theorem J6{a:Act}{g:Option Gs}{t:TypeId}(hs:HS c w s.h ρ O)(n:SS w (AA c w O) ρ s.t a.tmps)(m:kP a.tmps g)(l:qX P t=true)(b:Nat->Option (Nat×Nat))
  (d:∀f p,vQ P t f=some p->b f=some (p.1,P.cellsOf p.2)):
  ∀{k:List (Nat×Operand)} {j:List (Nat×List AV)},py P t (s.get g) k=some j->ux w (AA c w O) ρ b j (k.map λx=>(x.1,a.eval x.2))
 | [],j,e=>by simp only [py,U7] at e;subst e;exact .nil
 | (f,o)::k,j,e=>by
  simp only [py] at e;obtain⟨p,v,e⟩:=U8.1 e;split at e
  .rename_i i;obtain⟨q,y,e⟩:=U8.1 e;simp only [U7] at e;subst e;have hv:=SS.get (h:=s.h) n m o;obtain⟨r,u⟩:=yo hs hv i.2;exact .cons (by rw [d f p v,show(St.get ⟨s.t,s.h⟩ g o)=s.get g o from rfl,i.1]) r u (J6 hs n m l b d y)
  .simp at e
theorem MN{a:Act}{g:Option Gs}{t:TypeId}{m:Array (Nat×Operand)}{av:AV}(hs:HS c w s.h ρ O)(U:SS w (AA c w O) ρ s.t a.tmps)(T:kP a.tmps g)(e:yk P t (s.get g) m.toList=some av):
  ∃v,(Instr.build t (m.map λ(i,x)=>(i,a.eval x))).run P w= .ok v w/\an w (AA c w O) ρ av v:=by
 unfold yk at e;split at e
 .rename_i b;obtain⟨z,hz,e⟩:=U8.1 e;obtain⟨l,S,e⟩:=U8.1 e;obtain⟨cs,K,e⟩:=U8.1 e;simp only [U7] at e;subst e;obtain⟨i,zv,hi,E,M⟩:=oA hz;have D:aR w (AA c w O) z zv.cells.toList:=po M;have R:(m.map λ(i,x)=>(i,a.eval x)).toList=m.toList.map λx=>(x.1,a.eval x.2):=by simp
  have key:∀j:Nat->Option (Nat×Nat),(∀f p,vQ P t f=some p->j f=some (p.1,P.cellsOf p.2))->∃r,Instr.fill j zv.cells (m.map λ(i,x)=>(i,a.eval x)).toList=some r/\aC w (AA c w O) ρ cs r.toList/\∀u∈r.toList,u.oneCell'=true/\u.cells= #[u]:=by intro j q;rw [R];exact H3 (J6 hs U T b j q S) K (aC.mn D) D.one
  have C:∀r:Array Value,P.built t (m.map λ(i,x)=>(i,a.eval x)).toList=some r->aC w (AA c w O) ρ cs r.toList->(∀u∈r.toList,u.oneCell'=true/\u.cells= #[u])->
    ∃v,(Instr.build t (m.map λ(i,x)=>(i,a.eval x))).run P w= .ok v w/\an w (AA c w O) ρ (.agg cs) v:=by
   intro r hb h1 G;exact⟨_,run_build w t _ r hb,by simp only [an];exact⟨r.toList,by simp,h1,G⟩⟩
  cases k:P.underlying t with
  | none=>simp [qX,k] at b
  | some d=>
   cases d <;> simp only [qX,k,VF] at b
   case struct B=>
    have o:B.toList.mapM (λf=>(P.info? f.type).map λi=>(f.offset,i.size))=some (B.toList.map λx=>(x.offset,P.cellsOf x.type)):=by
     generalize B.toList=l at b;induction l with
     | nil=>rfl
     | cons f l V=>simp only [WV,Ve] at b;obtain⟨d,H⟩:=Xq.1 b.1;obtain⟨i,hi,y⟩:=zp H;simp only [ZT,hi,Xm,Option.bind_eq_bind,Vj,V b.2,Option.pure_def,V6,y]
    obtain⟨r,F,e2,e3⟩:=key ((B.toList.map λx=>(x.offset,P.cellsOf x.type)).toArray[·]?) (λf p I=>by
     obtain⟨_,h | ⟨n,e,h,_⟩⟩:=J4 I (by simp [qX,k,b])
     .obtain⟨J,h1,G⟩:=h;rw [k] at h1;simp only [U7,TypeDesc.struct.injEq] at h1;subst h1;simpa using G
     .rw [k] at h;simp at h)
    refine C r ?_ e2 e3;simp only [Program.built,hi,k,E,o];exact F
   case array n e=>
    obtain⟨d,H⟩:=Xq.1 b;obtain⟨Q,L,y⟩:=zp H;obtain⟨r,F,e2,e3⟩:=key (λi=>some (i * Q.size,Q.size)) (λf p I=>by
     obtain⟨_,⟨J,h1,_⟩ | ⟨W,e',h,N⟩⟩:=J4 I (by simp [qX,k,b])
     .rw [k] at h1;simp at h1
     .rw [k] at h;simp only [U7,TypeDesc.array.injEq] at h;obtain⟨rfl,rfl⟩:=h;subst N;simp [y])
    refine C r ?_ e2 e3;simp only [Program.built,hi,k,E,L];exact F
 .simp at e
end
open Go
section
variable {P:Program} {w w':World} {A A':Nat->Prop} {c:Ctx} {ρ:Id->Option Value} {O:Id->Option Nat} {s:St} {cc:Option Bool} {h:Id->Option ab}
def cB(w:World)(A:Nat->Prop)(sz:Nat):List (List T)->List (List Value)->Prop
 | [],vss=>vss= []
 | cs::xs,vss=>∃vs r,vss=vs::r/\cs.length=sz/\aR w A cs vs/\cB w A sz xs r
theorem cB.mono{sz:Nat}(a:∀b,A b->A' b/\w'.heap[b]? =w.heap[b]?):∀{xs:List (List T)} {vss:List (List Value)},cB w A sz xs vss->cB w' A' sz xs vss
 | [],_,h=>h
 | cs::xs,vss,⟨vs,r,e,h1,d,f⟩=>⟨vs,r,e,h1,aR.mono a cs vs d,cB.mono a f⟩
theorem cB.length{sz:Nat}:∀{xs:List (List T)} {vss:List (List Value)},cB w A sz xs vss->vss.length=xs.length/\vss.flatten.length=xs.length * sz
 | [],vss,h=>by simp only [cB] at h;subst h;simp
 | cs::xs,vss,⟨vs,r,e,h1,d,f⟩=>by subst e;obtain⟨a,b⟩:=cB.length f;have:=d.length;refine⟨by simp [a], ?_⟩;simp only [Xx,Ws,b,this,h1,Vy,Wm];omega
theorem cB.one{sz:Nat}:∀{xs:List (List T)} {vss:List (List Value)},cB w A sz xs vss->∀u∈vss.flatten,u.oneCell'=true/\u.cells= #[u]
 | [],vss,h,u,hu=>by simp only [cB] at h;subst h;simp at hu
 | cs::xs,vss,⟨vs,r,e,h1,a,b⟩,u,hu=>by
  subst e;simp only [Xx,Vr] at hu;rcases hu with hu | hu
  .exact a.one u hu
  .exact cB.one b u hu
theorem cB.append{sz:Nat}:∀{xs d:List (List T)} {vss a:List (List Value)},cB w A sz xs vss->cB w A sz d a->cB w A sz (xs++d) (vss++a)
 | [],_,vss,_,h,b=>by simp only [cB] at h;subst h;simpa using b
 | cs::xs,d,vss,a,⟨vs,r,e,h1,f,g⟩,b=>by subst e;exact⟨vs,r++a,rfl,h1,f,cB.append g b⟩
theorem aZ.bg{ah sz:Nat}:∀{off:Nat} {xs:List (List T)},aZ w A ah sz off xs->∃vss,cB w A sz xs vss/\∀p v,vss.flatten[p]? =some v->w.cell? ⟨ah,off+p,none⟩=some v
 | _,[],_=>⟨[],rfl,by simp⟩
 | off,cs::xs,h=>by
  simp only [aZ] at h;obtain⟨vs,h1,d⟩:=h.2.1.bg;obtain⟨r,e,f⟩:=aZ.bg h.2.2;refine⟨vs::r,⟨vs,r,rfl,h.1,h1,e⟩,λp v a=> ?_⟩;have b:=h1.length;rw [h.1] at b;rw [Xx] at a;by_cases g:p < sz
  .rw [WJ (by omega)] at a;exact d p v a
  .rw [Wn (by omega),b] at a;have:=f _ v a;rw [show off+sz+ (p - sz)=off+p by omega] at this;exact this
theorem aZ.lA{ah sz:Nat}:∀{off:Nat} {xs:List (List T)} {vss:List (List Value)},cB w A sz xs vss->(∀p v,vss.flatten[p]? =some v->w.cell? ⟨ah,off+p,none⟩=some v)->aZ w A ah sz off xs
 | _,[],_,_,_=>by simp [aZ]
 | off,cs::xs,vss,⟨vs,r,e,h1,a,f⟩,hv=>by
  subst e;have d:=a.length;rw [h1] at d;simp only [aZ];refine⟨h1,aX.lA a (λj v b=>hv j v ?_),aZ.lA f (λp v g=> ?_)⟩
  .rw [Xx,WJ (Vi.1 b).1];exact b
  .have:=hv (sz+p) v (by rw [Xx,Wn (by omega),d,show sz+p - sz=p by omega];exact g);rw [show off+sz+p=off+ (sz+p) by omega];exact this
theorem HS.Dm{i:Id}(hs:HS c w h ρ O)(hi:h i=none){xs:List (List T)}{vss:List (List Value)}{sz:Nat}(t:TypeId)(cells:Array Value)(cap:Nat)(f:cB w (AA c w O) sz xs vss)
  (d:∀(p:Nat) (v:Value),vss.flatten[p]? =some v->cells[p]? =some v) (a:xs.length<=cap) (g:cap * sz<=cells.size) (hrl:i.real=true:=by rfl):
  Le w ρ O (w.alloc (.cells cells t)) (aE ρ i (some (.slice (some ⟨w.heap.size,0,none⟩) xs.length cap))) (aE O i (some w.heap.size))/\
  HS c (w.alloc (.cells cells t)) (aE h i (some (.sl false sz false xs))) (aE ρ i (some (.slice (some ⟨w.heap.size,0,none⟩) xs.length cap))) (aE O i (some w.heap.size)):=by
 have le:=Le.alloc hs hrl hi (.cells cells t) (.slice (some ⟨w.heap.size,0,none⟩) xs.length cap) (some w.heap.size) (.inr rfl);refine⟨le,hs.alloc hrl hi _ _ _ (.inr rfl) _ ⟨_,by rw [aF],⟨some ⟨w.heap.size,0,none⟩,cap,rfl,a,by simp,trivial, .inr ⟨w.heap.size,0,cells,t,rfl,by simp,kZ _,by omega, ?_⟩⟩,by simp⟩⟩;refine aZ.lA (cB.mono (λb hb=>le.A b hb) f) (λp v e=> ?_);rw [kU (kZ _),VP];exact d p v e
theorem Ho{a:Act}{g:Option Gs}{e:TypeId}(hs:HS c w s.h ρ O)(D:SS w (AA c w O) ρ s.t a.tmps)(C:kP a.tmps g){O':Id->Option Nat}(le:Le w ρ O w ρ O')(m:∀i,O' i=O i\/O' i=none):
  ∀{y:List (Nat×Operand)} {n:Nat} {q:List (List T)×aH},iU P s.h e (s.get g) n y=some q->(∀p∈q.2,O' p.1=none)->
   ∃vs:List Value,(y.map λx=>(x.1,a.eval x.2))= ((vs.zipIdx n).map λx=>(x.2,x.1))/\cB w (AA c w O') (P.cellsOf e) q.1 (vs.map λv=>v.cells.toList)/\(∀v∈vs,v.cells.size=P.cellsOf e)
 | [],n,q,b,_=>by simp only [iU,U7] at b;subst b;exact⟨[],rfl,by simp [cB],by simp⟩
 | (k,o)::y,n,q,b,r=>by
  simp only [iU] at b;obtain⟨l,F,b⟩:=U8.1 b;split at b
  .rename_i j;obtain⟨rfl,d⟩:=j;obtain⟨H,B,b⟩:=U8.1 b;simp only [U7] at b;subst b;simp only [Vr] at r;obtain⟨vs,E,e2,e3⟩:=Ho hs D C le m B (λp u=>r p (.inr u));have hv:=SS.get (h:=s.h) D C o;obtain⟨z,G⟩:=Er hs hv F le m (λp u=>r p (.inl u));have gl:=z.length;refine⟨a.eval o::vs, ?_,⟨_,_,rfl,d,z,e2⟩, ?_⟩
   .simp only [V6,List.zipIdx_cons,E]
   .intro v f;rcases Vo.1 f with rfl | f
    .rw [<-VH,gl,d]
    .exact e3 v f
  .simp at b
theorem Hn{e:TypeId}{ev:Operand->AV}:∀{b:List (Nat×Operand)} {n:Nat} {q:List (List T)×aH},iU P h e ev n b=some q->ix h q.2/\q.1.length=b.length
 | [],n,q,a=>by simp only [iU,U7] at a;subst a;exact⟨(λp g=>by cases g),rfl⟩
 | (k,o)::b,n,q,a=>by
  simp only [iU] at a;obtain⟨l,i,a⟩:=U8.1 a;split at a
  .obtain⟨j,d,a⟩:=U8.1 a;simp only [U7] at a;subst a;obtain⟨f,e2⟩:=Hn d;exact⟨(CD _).append f,by simp [e2]⟩
  .simp at a
theorem D6{t e:TypeId}{n:Nat}(p:P.underlying t=some (.slice e))(k:bV P e=true)(hz:(jU P e).isSome=true)(b: 0 < P.cellsOf e)(hb:n<=1000/\P.cellsOf e<=1000)(vs:List Value)(hv:∀v∈vs,v.cells.size=P.cellsOf e)(g:vs.length=n)
  (m:Array (Nat×Value)) (a:m.toList= (vs.zipIdx 0).map λx=>(x.2,x.1)):
  (Instr.buildSlice t n m).run P w= .ok (.slice (some ⟨w.heap.size,0,none⟩) n n) (w.alloc (.cells (vs.flatMap λv=>v.cells.toList).toArray e)):=by
 obtain⟨z,hz⟩:=Xq.1 hz;obtain⟨i,zv,hi,l,_⟩:=oA hz;have q:n * P.cellsOf e<=1000 * 1000:=YL hb.1 hb.2;have h1:¬(n * P.cellsOf e > 2 ^ 24):=by
  have f:(2:Nat) ^ 24=16777216:=by decide
  rw [f];omega
 have o:=Go.Great.fill_whole b vs;unfold Instr.buildSlice;simp only [Vz,run_underlying p,Vm,jw k,if_neg h1,Sem.run_ite];by_cases d:n * P.cellsOf e=0
 .have j:n=0:=by rcases Nat.mul_eq_zero.1 d with e | e <;> omega
  subst j;have:vs= []:=Vt.1 g;subst this;simp only [Nat.zero_mul,if_true,VQ,Vm];simp only [List.zipIdx_nil,X9] at a;simp [a,Instr.fill,newRow,Array.range_zero']
 .simp only [if_neg d,Vz,zeroValue,typeInfo,run_program,Vm,hi,VQ,l];rw [a,o _ hv (by simp [g])];simp [newRow]
theorem KB{t e:TypeId}{a:List T}{n m:Int}{kn km:IntKind}(p:P.underlying t=some (.slice e))(hz:jU P e=some a)(hb:P.bytesOf e<=8192)(o:a.length=P.cellsOf e)(l: 0<=n)(h1:n<=m)(b:m<=dY):
  ∃zv:Value,aR w A a zv.cells.toList/\(Instr.makeSlice t (.int kn n) (.int km m)).run P w= .ok (.slice (some ⟨w.heap.size,0,none⟩) n.toNat m.toNat) (w.alloc (.cells (madeCells zv.cells (m.toNat * P.cellsOf e)) e)):=by
 obtain⟨i,zv,hi,j,f⟩:=oA hz;have g:P.cellsOf e=i.size:=by simp [Program.cellsOf,hi]
 have d:P.bytesOf e=i.bytes:=by simp [Program.bytesOf,hi]
 refine⟨zv,po f, ?_⟩;rw [g];refine run_make w t e i zv p hi j kn km n m l h1 ?_ ?_
 .rw [d] at hb;have:(i.bytes:Int) * m<=8192 * 4294967296:=by
   have k:(i.bytes:Int)<=8192:=by omega
   have e2:m<=4294967296:=by simpa [dY] using b
   calc (i.bytes:Int) * m<=8192 * m:=VA k (by omega)
    _<=8192 * 4294967296:=Vh e2 (by omega)
  omega
 .have e2:m<=4294967296:=by simpa [dY] using b
  omega
theorem C5{zv:Array Value}{sz:Nat}(hz:zv.size=sz)(n m:Nat)(g:n<=m):∀(p:Nat) (v:Value),(List.replicate n zv.toList).flatten[p]? =some v->(madeCells zv (m * sz))[p]? =some v:=by
 intro p v a;have b:p < n * sz:=by have:=(Vi.1 a).1;simpa [hz] using this
 have f: 0 < sz:=by
  rcases Nat.eq_zero_or_pos sz with e | e
  .rw [e] at b;simp at b
  .exact e
 have hm:n * sz<=m * sz:=V5 _ g;have key:∀n p,p < n * sz->(List.replicate n zv.toList).flatten[p]? =zv[p % sz]?:=by
  intro n;induction n with
  | zero=>intro p h;simp at h
  | succ n i=>
   intro p h;rw [VX,Xx];by_cases a:p < sz
   .rw [WJ (by simpa [hz] using a),XD a];simp
   .rw [Wn (by simp [hz];omega)];simp only [VH,hz];have e2:(n+1) * sz=n * sz+sz:=Wm _ _;rw [i _ (by omega)];congr 1;exact(Nat.mod_eq_sub_mod (by omega)).symm
 rw [key n p b] at a;have d:p % sz < zv.size:=by rw [hz];exact Yw _ f
 simp only [madeCells,Array.getElem?_map];rw [XG (by simp;omega)];simp only [Array.getElem_range,Xm,hz];rw [XG d] at a;rw [getElem!_pos zv _ d];exact a
theorem cB.replicate{sz:Nat}{a:List T}{vs:List Value}(d:aR w A a vs)(b:a.length=sz):∀n,cB w A sz (List.replicate n a) (List.replicate n vs)
 | 0=>rfl
 | n+1=>⟨vs,List.replicate n vs,rfl,b,d,cB.replicate d b n⟩
end
end Go.Aev
