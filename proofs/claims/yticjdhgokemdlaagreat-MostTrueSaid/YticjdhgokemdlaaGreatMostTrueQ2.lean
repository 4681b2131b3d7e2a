import Derived.Test.YticjdhgokemdlaaGreatMostTrueQ1
import Derived.ChangeKeysEq
import Derived.Deep.AppendSrc
import Derived.Great.FillDense
set_option linter.all false
namespace Go.Aev
open Go Go.IntKind
section
variable {P:Program} {w:World} {A:Nat->Prop}
theorem T.gH{k:IntKind}{x:T}{n:Int}(h:x.int? k=some n):x= .int k n:=by cases x <;> simp only [T.int?,reduceCtorEq] at h;split at h <;> simp_all
theorem T.ji{x:T}{b:Bool}(h:x.bool? =some b):x= .bool b:=by cases x <;> simp_all [T.bool?]
theorem T.kO{x:T}{s:ByteArray}(h:x.bD =some s):x= .str s:=by cases x <;> simp_all [T.bD]
theorem T.Ai{x:T}{cs:List T}(h:x.qI =some cs):x= .ptr cs:=by cases x <;> simp_all [T.qI]
theorem T.qq{sz:Nat}{x:T}{p:Bool×List (List T)}(h:x.aU sz=some p):x= .aa sz p.1 p.2\/(x= .aJ p.1/\p.2= []):=by
 cases x <;> simp only [T.aU,reduceCtorEq,U5] at h
 case aa a b xs=>split at h <;> simp_all;subst h;simp
 case aJ b=>subst h;simp
theorem Qi{w:World}{A:Nat->Prop}{y:T}{v:Value}(h:zO y=true)(a:aA w A y v):v= .slice none 0 0:=by
 unfold zO at h;split at h
 .simp only [aA] at a;rcases a with⟨_,h⟩ | ⟨h,_⟩
  .exact h
  .cases h
 .simp only [aA] at a;rcases a with⟨_,_,h⟩ | ⟨h,_⟩
  .exact h
  .cases h
 .cases h
theorem AV.mA{v:AV}{x:T}(h:v.t? =some x):v= .t x:=by cases v <;> simp_all [AV.t?]
theorem qn{d R:Type}[Inhabited d]{c:Option Bool}{m:Option d}{k:d->Option R}{r:R}(h:ae c m k=some r):
  ∃a,k a=some r/\(m=some a\/(m=none/\c=some false)):=by
 unfold ae at h;cases m with
 | some a=>exact⟨a,h, .inl rfl⟩
 | none=>cases c with
  | none=>simp at h
  | some b=>cases b with
   | true=>simp at h
   | false=>exact⟨_,h, .inr ⟨rfl,rfl⟩⟩
def uq(P:Program)(R:Value->World->Prop):Result Next->Prop
 | .ok (.value x) w'=>R x w'
 | .ok .skip w'=>R undef w'
 | .ok (.enter f args) w'=>Calls P f args w' λe a=>∃x,e= .returned x/\R x a
 | _=>False
def jd(P:Program)(o:Oper)(a:Act)(w:World)(R:Value->World->Prop):Prop:=uq P R ((execOp a.eval o).run P w)
theorem jd.mono{o:Oper}{a:Act}{R b:Value->World->Prop}(h:jd P o a w R)(d:∀x w',R x w'->b x w'):jd P o a w b:=by
 unfold jd at *
 generalize (execOp a.eval o).run P w=r at *
 cases r with
 | ok n w'=>
  cases n <;> simp only [uq] at h⊢
  case enter=>exact h.mono λe g ⟨x,f,e2⟩=>⟨x,f,d _ _ e2⟩
  all_goals exact d _ _ h
 | halt x w'=>simp [uq] at h
theorem jd.wp{o:Oper}{a:Act}{R:Value->World->Prop}{K:Act->World->Prop}{Q:Exit->Act->World->Prop}(h:jd P o a w R)(b:∀x w',R x w'->K (a.put o.dst x) w'):o.wp P a w K Q:=by
 unfold jd at h;unfold Oper.wp;generalize (execOp a.eval o).run P w=r at *
 cases r with
 | ok n w'=>
  cases n <;> simp only [uq] at h <;> simp only [Oper.upon]
  case enter=>exact h.mono λe f ⟨x,d,e2⟩=>by subst d;exact b _ _ e2
  all_goals first | exact b _ _ h | exact h.elim
 | halt x w'=>simp [uq] at h
theorem zM{t:TypeId}{d:TypeDesc}(h:P.underlying t=some d):∃i,P.info? t=some i/\P.cellsOf t=i.size:=by
 unfold Program.underlying at h;cases hi:P.info? t with
 | none=>simp [hi] at h
 | some i=>exact⟨i,rfl,by simp [Program.cellsOf,hi]⟩
theorem jz{t:TypeId}(h:bV P t=true)(w:World):(sizeOf t).run P w= .ok (P.cellsOf t) w:=by unfold bV at h;obtain⟨d,a⟩:=Xj.1 h;obtain⟨i,hi,hs⟩:=zM a;rw [hs];simp [sizeOf,typeInfo,hi]
theorem td{t:TypeId}(h:bV P t=true)(w:World):(isAgg t).run P w= .ok (bw P t) w:=by unfold bV at h;obtain⟨d,a⟩:=Xj.1 h;unfold isAgg bw;simp only [Vy,run_underlying a,Vi,a];cases d <;> rfl
theorem gS(k:IntKind)(n:Int)(w:World)(A:Nat->Prop):aA w A (.int k n) (.int k n):=by simp [aA]
theorem nX(b:Bool)(w:World)(A:Nat->Prop):aA w A (.bool b) (.bool b):=by simp [aA]
theorem mn(b:ByteArray)(w:World)(A:Nat->Prop):aA w A (.str b) (.string b):=by simp [aA]
theorem Mk{R:Type}{op:BinOp}{k:IntKind}{c:Option Bool}{x y:T}{K:T->Option R}{r:R}{t:TypeId}{j l:Value}(f:c=none\/c=some true)
  (i:aA w A x j) (hy:aA w A y l) (h:rN op k c x y K=some r):
  ∃z m,K z=some r/\(∀w A,aA w A z m)/\(binOp op t j l).run P w= .ok m w:=by
 unfold rN at h;replace h:=aO h f;obtain⟨a,n,h⟩:=h;replace h:=aO h f;obtain⟨b,hb,h⟩:=h;have:=T.gH n;subst this;have:=T.gH hb;subst this;simp only [aA] at i hy;subst i;subst hy;cases op <;> simp only [reduceCtorEq] at h
 case quo=>
  replace h:=aO h f;obtain⟨_,g,h⟩:=h;have d:b≠0:=by intro e;simp [e] at g
  exact⟨_,_,h,by first | exact gS _ _ | exact nX _ | exact mn _,by simp [binOp,Op.intDiv,d]⟩
 case rem=>
  replace h:=aO h f;obtain⟨_,g,h⟩:=h;have d:b≠0:=by intro e;simp [e] at g
  exact⟨_,_,h,by first | exact gS _ _ | exact nX _ | exact mn _,by simp [binOp,Op.intDiv,d]⟩
 all_goals exact⟨_,_,h,by first | exact gS _ _ | exact nX _ | exact mn _,by simp [binOp,Op.intArith,Op.intBits,Op.intCmp]⟩
theorem Tk{R:Type}{op:BinOp}{k ky:IntKind}{c:Option Bool}{x y:T}{K:T->Option R}{r:R}{t:TypeId}{i j:Value}(d:c=none\/c=some true)
  (g:aA w A x i) (hy:aA w A y j) (h:te op k ky c x y K=some r):
  ∃z l,K z=some r/\(∀w A,aA w A z l)/\(binOp op t i j).run P w= .ok l w:=by
 unfold te at h;replace h:=aO h d;obtain⟨a,n,h⟩:=h;replace h:=aO h d;obtain⟨b,hb,h⟩:=h;have:=T.gH n;subst this;have:=T.gH hb;subst this;simp only [aA] at g hy;subst g;subst hy;replace h:=aO h d;obtain⟨_,m,h⟩:=h;have f:¬b < 0:=by intro e;simp [e] at m
 cases op <;> simp only [reduceCtorEq] at h
 all_goals exact⟨_,_,h,by first | exact gS _ _ | exact nX _ | exact mn _,by simp [binOp,Op.shift,f]⟩
theorem TF{R:Type}{op:BinOp}{c:Option Bool}{x y:T}{K:T->Option R}{r:R}{t:TypeId}{i j:Value}(d:c=none\/c=some true)
  (g:aA w A x i) (hy:aA w A y j) (h:tn op c x y K=some r):
  ∃z k,K z=some r/\(∀w A,aA w A z k)/\(binOp op t i j).run P w= .ok k w:=by
 unfold tn at h;replace h:=aO h d;obtain⟨a,m,h⟩:=h;replace h:=aO h d;obtain⟨b,hb,h⟩:=h;have:=T.kO m;subst this;have:=T.kO hb;subst this;simp only [aA] at g hy;subst g;subst hy;cases op <;> simp only [reduceCtorEq] at h
 case add=>
  replace h:=aO h d;obtain⟨_,l,h⟩:=h;have n:a.size+b.size<=4294967296:=by
   by_cases e:a.size+b.size<=4294967296
   .exact e
   .simp [e] at l
  have f:¬(((a.size+b.size:Nat):Int) > i64.max):=by
   have:i64.max=9223372036854775807:=by decide
   rw [this];omega
  exact⟨_,_,h,by first | exact gS _ _ | exact nX _ | exact mn _,by simp only [binOp,Op.stringOp,if_neg f];rfl⟩
 all_goals exact⟨_,_,h,by first | exact gS _ _ | exact nX _ | exact mn _,by simp [binOp,Op.stringOp]⟩
theorem Mr{R:Type}{op:BinOp}{t ty:TypeId}{c:Option Bool}{x y:T}{K:T->Option R}{r:R}{d e:Value}(a:c=none\/c=some true)
  (b:aA w A x d) (hy:aA w A y e) (h:rO P op t ty c x y K=some r):
  (op≠ .eql/\op≠ .neq)/\∃z f,K z=some r/\(∀w A,aA w A z f)/\(binOp op t d e).run P w= .ok f w:=by
 unfold rO at h;cases op <;> simp only [reduceCtorEq] at h <;> refine⟨⟨by simp,by simp⟩, ?_⟩ <;> split at h <;> first | exact Mk a b hy h | exact Tk a b hy h | exact TF a b hy h | simp at h
theorem UJ{R:Type}{op:UnOp}{t:TypeId}{c:Option Bool}{x:T}{K:T->Option R}{r:R}{f:Value}(e:c=none\/c=some true)
  (b:aA w A x f) (h:tE P op t c x K=some r):
  ∃z g,K z=some r/\(∀w A,aA w A z g)/\(Op.unary op f).run P w= .ok g w:=by
 unfold tE at h;split at h
 .replace h:=aO h e;obtain⟨a,d,h⟩:=h;have:=T.gH d;subst this;simp only [aA] at b;subst b;exact⟨_,_,h,by first | exact gS _ _ | exact nX _ | exact mn _,by simp [Op.unary,Op.intArith]⟩
 .replace h:=aO h e;obtain⟨a,d,h⟩:=h;have:=T.gH d;subst this;simp only [aA] at b;subst b;exact⟨_,_,h,by first | exact gS _ _ | exact nX _ | exact mn _,by simp [Op.unary,Op.intBits]⟩
 .replace h:=aO h e;obtain⟨a,d,h⟩:=h;have:=T.ji d;subst this;simp only [aA] at b;subst b;exact⟨_,_,h,by first | exact gS _ _ | exact nX _ | exact mn _,by simp [Op.unary]⟩
 .simp at h
theorem Pz{R:Type}{d:Nat}{t:TypeId}{c:Option Bool}{x y:T}{K:Bool->Option R}{r:R}{j l:Value}(e:c=none\/c=some true)
  (f:aA w A x j) (hy:aA w A y l) (h:l0 P c t x y K=some r):∃b,K b=some r/\(Op.equalIn (d+1) t j l).run P w= .ok b w:=by
 unfold l0 at h;split at h
 .rename_i k i;replace h:=aO h e;obtain⟨a,g,h⟩:=h;replace h:=aO h e;obtain⟨b,hb,h⟩:=h;have:=T.gH g;subst this;have:=T.gH hb;subst this;simp only [aA] at f hy;subst f;subst hy;exact⟨_,h,by simp [Op.equalIn,run_underlying i]⟩
 .rename_i i;replace h:=aO h e;obtain⟨a,g,h⟩:=h;replace h:=aO h e;obtain⟨b,hb,h⟩:=h;have:=T.ji g;subst this;have:=T.ji hb;subst this;simp only [aA] at f hy;subst f;subst hy;exact⟨_,h,by simp [Op.equalIn,run_underlying i]⟩
 .rename_i i;replace h:=aO h e;obtain⟨a,g,h⟩:=h;replace h:=aO h e;obtain⟨b,hb,h⟩:=h;have:=T.kO g;subst this;have:=T.kO hb;subst this;simp only [aA] at f hy;subst f;subst hy;exact⟨_,h,by simp [Op.equalIn,run_underlying i]⟩
 .simp at h
theorem CQ{R:Type}{c:Option Bool}(d:List TypeId):∀(ts:List TypeId) (xs a:List T) (K:Bool->Option R),
  eW P c (ts++d) xs a K=eW P c ts (xs.take ts.length) (a.take ts.length) (λq=>eW P c d (xs.drop ts.length) (a.drop ts.length) λe=>K (q && e))
 | [],xs,a,K=>by simp [eW]
 | t::ts,[],a,K=>by simp [eW]
 | t::ts,x::xs,[],K=>by simp [eW]
 | t::ts,x::xs,y::a,K=>by simp only [Vc,Vw,Yy,List.drop_succ_cons,eW];congr 1;funext b;rw [CQ d ts xs a];simp only [ZL]
theorem aT.take{cs:List T}{vs:List Value}(h:aT w A cs vs):∀n,aT w A (cs.take n) (vs.take n):=by
 intro n;induction n generalizing cs vs with
 | zero=>simp [aT]
 | succ n b=>
  cases cs with
  | nil=>simp only [aT] at h;subst h;simp [aT]
  | cons c cs=>obtain⟨v,r,rfl,h1,a⟩:=h;exact⟨v,r.take n,rfl,h1,b a⟩
theorem aT.drop{cs:List T}{vs:List Value}(h:aT w A cs vs):∀n,aT w A (cs.drop n) (vs.drop n):=by
 intro n;induction n generalizing cs vs with
 | zero=>simpa using h
 | succ n b=>
  cases cs with
  | nil=>simp only [aT] at h;subst h;simp [aT]
  | cons c cs=>obtain⟨v,r,rfl,h1,a⟩:=h;exact b a
end
open Go
section
variable {P:Program} {w:World} {A:Nat->Prop}
def kP(P:Program)(t:TypeId)(vs:List Value):Value:=if bw P t=true then .agg vs.toArray else vs.headD undef
theorem we{t:TypeId}(b:bV P t=true)(xs:Array Value)(off:Nat)(h1:bw P t=false->P.cellsOf t=1)(d:off+P.cellsOf t<=xs.size)(w:World):
  (part t xs off).run P w= .ok (kP P t ((xs.toList.drop off).take (P.cellsOf t))) w:=by
 unfold part kP;simp only [Vy,td b,Vi];cases hb:bw P t
 .simp only [VD,if_false];rw [h1 hb] at d⊢;have a:off < xs.size:=by omega
  have:xs[off]? =some xs[off]:=Xx a;rw [this];have e:off < xs.toList.length:=by simpa using a
  rw [W4 e];simp
 .simp only [if_true,Vy,jz b,Vi,VK];congr 2;apply Xz;simp []
theorem aT.part{xs:List T}{vs:List Value}(h:aT w A xs vs)(off n:Nat):aT w A ((xs.drop off).take n) ((vs.drop off).take n):=(h.drop off).take n
theorem sd{R:Type}{c:Option Bool}(a:c=none\/c=some true):∀{ts:List TypeId} {xs d:List T} {K:Bool->Option R} {r:R},eW P c ts xs d K=some r->xs.length=ts.length/\d.length=ts.length
 | [],[],[],_,_,_=>⟨rfl,rfl⟩
 | t::ts,x::xs,y::d,K,r,h=>by
  simp only [eW] at h;have:∃b,eW P c ts xs d (λr=>K (b && r))=some r:=by
   unfold l0 at h;split at h
   .replace h:=aO h a;obtain⟨_,_,h⟩:=h;replace h:=aO h a;obtain⟨_,_,h⟩:=h;exact⟨_,h⟩
   .replace h:=aO h a;obtain⟨_,_,h⟩:=h;replace h:=aO h a;obtain⟨_,_,h⟩:=h;exact⟨_,h⟩
   .replace h:=aO h a;obtain⟨_,_,h⟩:=h;replace h:=aO h a;obtain⟨_,_,h⟩:=h;exact⟨_,h⟩
   .simp at h
  obtain⟨b,hb⟩:=this;obtain⟨h1,e⟩:=sd a hb;simp [h1,e]
 | [],[],_::_,_,_,h=>by simp [eW] at h
 | [],_::_,_,_,_,h=>by simp [eW] at h
 | _::_,[],_,_,_,h=>by simp [eW] at h
 | _::_,_::_,[],_,_,h=>by simp [eW] at h
theorem ql{n:Nat}{t:TypeId}{ts:List TypeId}(h:fX P n t=some ts):bV P t=true:=by
 cases n with
 | zero=>simp [fX] at h
 | succ n=>
  simp only [fX] at h;unfold bV;cases a:P.underlying t with
  | none=>simp [a] at h
  | some d=>rfl
theorem H3{n:Nat}{t:TypeId}{ts:List TypeId}(h:fX P n t=some ts)(hb:bw P t=false):ts= [t]:=by
 cases n with
 | zero=>simp [fX] at h
 | succ n=>
  simp only [fX] at h;unfold bw at hb;cases a:P.underlying t with
  | none=>simp [a] at h
  | some d=>cases d <;> simp_all
def A6(P:Program)(w:World)(A:Nat->Prop)(n:Nat):Prop:= ∀(t:TypeId) (ts:List TypeId),fX P n t=some ts->∀(d:Nat),n<=d->
 ∀(R:Type) (c:Option Bool),c=none\/c=some true->∀(xs f:List T) (a e:List Value) (K:Bool->Option R) (r:R),aT w A xs a->aT w A f e->eW P c ts xs f K=some r->
  ∃b,K b=some r/\(Op.equalIn d t (kP P t a) (kP P t e)).run P w= .ok b w
theorem HO{n d:Nat}(B:A6 P w A n)(z:n<=d){X Y:Array Value}{R:Type}{c:Option Bool}(j:c=none\/c=some true):
  ∀(g:List Field) (off:Nat) (ts:List TypeId),sD P (fX P n) g off=some ts->∀(xs o:List T) (K:Bool->Option R) (r:R),aT w A xs (X.toList.drop off)->aT w A o (Y.toList.drop off)->
   eW P c ts xs o K=some r->∃b,K b=some r/\(Op.eqFields d X Y g).run P w= .ok b w
 | [],off,ts,h,xs,o,K,r,m,hy,e=>by simp only [sD,U5] at h;subst h;obtain⟨h1,E⟩:=sd j e;have:=Vq.1 h1;subst this;have:=Vq.1 E;subst this;exact⟨true,by simpa [eW] using e,by simp [Op.eqFields]⟩
 | f::g,off,ts,h,xs,o,K,r,m,hy,e=>by
  simp only [sD] at h;by_cases k:f.offset=off/\f.name≠ "_"
  .rw [if_pos k] at h;cases a:fX P n f.type with
   | none=>simp [a] at h
   | some l=>
    simp only [a,Vf] at h;by_cases i:P.cellsOf f.type=l.length/\0 < l.length
    .rw [if_pos i] at h;obtain⟨hs,F⟩:=i;cases u:sD P (fX P n) g (off+l.length) with
     | none=>simp [u] at h
     | some q=>
      simp only [u,Vf,U5] at h;subst h;obtain⟨G,ly⟩:=sd j e;simp only [Wr] at G ly;rw [CQ] at e;obtain⟨v,x,D⟩:=B f.type l a d z R c j _ _ _ _ _ _ (m.take l.length) (hy.take l.length) e;have p:=m.drop l.length;have t:=hy.drop l.length;rw [Ze] at p t;obtain⟨C,y,e2⟩:=HO B z j g (off+l.length) q u _ _ _ _ p t x;have sx:=m.length;have H:=hy.length;simp only [Xb,VG] at sx H;have one:bw P f.type=false->P.cellsOf f.type=1:=λhb=>by rw [hs,H3 a hb];rfl
      refine⟨v && C,y, ?_⟩;simp only [Op.eqFields,ne_eq,k.2,not_false_eq_true,if_true,Vy];rw [k.1,we (ql a) X off one (by rw [hs];omega) w];simp only [Vi];rw [we (ql a) Y off one (by rw [hs];omega) w];simp only [Vi,hs,D];cases v
      .simp
      .simp [e2]
    .rw [if_neg i] at h;simp at h
  .rw [if_neg k] at h;simp at h
theorem HP{n d:Nat}(C:A6 P w A n)(B:n<=d){X Y:Array Value}{R:Type}{c:Option Bool}(j:c=none\/c=some true){e:TypeId}{l:List TypeId}(a:fX P n e=some l)(hs:P.cellsOf e=l.length):
  ∀(m k:Nat) (xs p:List T) (K:Bool->Option R) (r:R),aT w A xs (X.toList.drop (k * P.cellsOf e))->aT w A p (Y.toList.drop (k * P.cellsOf e))->
   eW P c (List.replicate m l).flatten xs p K=some r->∃b,K b=some r/\(Op.eqItems d e (P.cellsOf e) X Y (List.range' k m)).run P w= .ok b w
 | 0,k,xs,p,K,r,o,hy,f=>by obtain⟨h1,E⟩:=sd j f;have:=Vq.1 h1;subst this;have:=Vq.1 E;subst this;exact⟨true,by simpa [eW] using f,by simp [Op.eqItems]⟩
 | m+1,k,xs,p,K,r,o,hy,f=>by
  simp only [VX,Xq] at f;obtain⟨G,ly⟩:=sd j f;simp only [Wr] at G ly;rw [CQ] at f;obtain⟨i,z,g⟩:=C e l a d B R c j _ _ _ _ _ _ (o.take l.length) (hy.take l.length) f;have t:=o.drop l.length;have u:=hy.drop l.length;have F:k * P.cellsOf e+l.length= (k+1) * P.cellsOf e:=by rw [hs,Wn]
  rw [Ze,F] at t u;obtain⟨x,q,e2⟩:=HP C B j a hs m (k+1) _ _ _ _ t u z;have sx:=o.length;have D:=hy.length;simp only [Xb,VG] at sx D;have one:bw P e=false->P.cellsOf e=1:=λhb=>by rw [hs,H3 a hb];rfl
  by_cases y:l.length=0
  ·
   refine⟨i && x,q, ?_⟩;have v:bw P e=true:=by
    cases hb:bw P e
    .have:=one hb;omega
    .rfl
   have H:∀(Z:Array Value) (w:World),(part e Z (k * P.cellsOf e)).run P w= .ok (kP P e []) w:=by intro Z w;unfold part kP;simp only [Vy,td (ql a),Vi,v,if_true,jz (ql a),VK,hs,y];simp
   simp only [XH,Op.eqItems,Vy,H,Vi];rw [y] at g;simp only [XI] at g;rw [g];cases i
   .simp
   .simp [e2]
  .refine⟨i && x,q, ?_⟩;simp only [XH,Op.eqItems,Vy];rw [we (ql a) X _ one (by rw [hs] at sx⊢;omega) w];simp only [Vi];rw [we (ql a) Y _ one (by rw [hs] at D⊢;omega) w];simp only [Vi,hs];rw [hs] at g e2;simp only [g,Vi];cases i
   .simp
   .simp [e2]
theorem CS:∀n,A6 P w A n
 | 0=>by intro t ts h;simp [fX] at h
 | n+1=>by
  intro t ts h d V R c k xs z S T K r C hy j;obtain⟨d,rfl⟩:∃M,d=M+1:=⟨d - 1,by omega⟩;have L:=CS n;simp only [fX] at h;have a:bw P t=false->ts= [t]->∃b,K b=some r/\(Op.equalIn (d+1) t (kP P t S) (kP P t T)).run P w= .ok b w:=by
   intro hb J;subst J;obtain⟨D,ly⟩:=sd k j;cases xs with
   | nil=>simp at D
   | cons x xs=>cases z with
    | nil=>simp at ly
    | cons y z=>simp only [Vw,VL,VM,Nat.add_eq_right,Vq] at D ly;subst D;subst ly;obtain⟨v,q,rfl,h1,X⟩:=C;obtain⟨u,p,rfl,Q,W⟩:=hy;simp only [eW,XU] at j;simpa [kP,hb] using Pz (d:=d) k h1 Q j
  cases f:P.underlying t with
  | none=>simp [f] at h
  | some N=>
   cases N <;> simp only [f,reduceCtorEq,U5] at h
   case int=>exact a (by simp [bw,f]) h.symm
   case bool=>exact a (by simp [bw,f]) h.symm
   case string=>exact a (by simp [bw,f]) h.symm
   case struct E=>
    split at h
    .simp at h
    .rename_i I;have g:bw P t=true:=by simp [bw,f]
     have G:P.underlying t=some (.struct (P.fieldsOf t)):=by simp [Program.fieldsOf,f]
     have H:P.fieldsOf t=E:=by simp [Program.fieldsOf,f]
     simp only [kP,g,if_true];rw [run_equalIn_struct w d t _ _ G (by simpa using I),H];exact HO L (by omega) k E.toList 0 ts h xs z K r (by simpa using C) (by simpa using hy) j
   case array m e=>
    cases o:fX P n e with
    | none=>simp [o] at h
    | some l=>
     simp only [o,Vf] at h;split at h
     .rename_i hs;simp only [U5] at h;subst h;have g:bw P t=true:=by simp [bw,f]
      have B:=ql o;unfold bV at B;obtain⟨U,F⟩:=Xj.1 B;obtain⟨i,hi,_⟩:=zM F;simp only [kP,g,if_true];rw [run_equalIn_array w d _ _ f hi,XW];exact HP L (by omega) k o hs m 0 xs z K r (by simpa using C) (by simpa using hy) j
     .simp at h
theorem HK{R:Type}{ρ:Id->Option Value}{t:TypeId}{c:Option Bool}{x y:AV}{K:Bool->Option R}{r:R}{q u:Value}(i:c=none\/c=some true)
  (f:ao w A ρ x q) (hy:ao w A ρ y u) (h:qe P c t x y K=some r) (v z:Operand):
  ∃b,K b=some r/\((eqGuard .eql t v z q u).run P w= .ok () w/\(binOp .eql t q u).run P w= .ok (.bool b) w)/\((eqGuard .neq t v z q u).run P w= .ok () w/\(binOp .neq t q u).run P w= .ok (.bool (!b)) w):=by
 unfold qe at h;split at h
 .rename_i x y;simp only [ao] at f hy;cases n:C8 P t
  .simp only [n,cond_false] at h;have d:=h;unfold l0 at d;split at d
   .rename_i k p;replace d:=aO d i;obtain⟨a,m,d⟩:=d;replace d:=aO d i;obtain⟨b,hb,d⟩:=d;have:=T.gH m;subst this;have:=T.gH hb;subst this;simp only [aA] at f hy;subst f;subst hy;exact⟨_,d,⟨by simp [eqGuard],by simp [binOp,Op.intCmp]⟩,⟨by simp [eqGuard],by simp [binOp,Op.intCmp,bne]⟩⟩
   .rename_i p;replace d:=aO d i;obtain⟨a,m,d⟩:=d;replace d:=aO d i;obtain⟨b,hb,d⟩:=d;have:=T.ji m;subst this;have:=T.ji hb;subst this;simp only [aA] at f hy;subst f;subst hy;exact⟨_,d,⟨by simp [eqGuard],run_eql_bool w t a b p⟩,⟨by simp [eqGuard],run_neq_bool w t a b p⟩⟩
   .rename_i p;simp [C8,p] at n
   .simp at d
  .simp only [n,cond_true] at h;replace h:=aO h i;obtain⟨a,m,h⟩:=h;replace h:=aO h i;obtain⟨b,hb,h⟩:=h;have:=T.kO m;subst this;have:=T.kO hb;subst this;simp only [aA] at f hy;subst f;subst hy;exact⟨_,h,⟨by simp [eqGuard],by simp [binOp,Op.stringOp]⟩,⟨by simp [eqGuard],by simp [binOp,Op.stringOp]⟩⟩
 .rename_i xs H;cases j:(P.eqGuardType P.depth t || !bw P t)
  .simp only [j,cond_false] at h;simp only [Yn,Bool.not_eq_false'] at j;obtain⟨j,C⟩:=j;cases g:fp xs with
   | none=>simp [g] at h
   | some D=>
    cases l:fp H with
    | none=>simp [g,l] at h
    | some E=>
     cases o:fX P 8 t with
     | none=>simp [g,l,o] at h
     | some ts=>simp only [g,l,o,Vf] at h;simp only [ao] at f hy;obtain⟨F,rfl,f,_⟩:=f;obtain⟨G,rfl,hy,_⟩:=hy;have B:bw P t=true:=C;obtain⟨b,hb,e⟩:=CS 8 t ts o 10000 (by omega) R c i D E F G K r (aT.mh g f) (aT.mh l hy) h;simp only [kP,B,if_true] at e;exact⟨b,hb,⟨run_eqGuard_agg w .eql t v z _ _ j,by rw [run_eql_struct,e];rfl⟩,⟨run_eqGuard_agg w .neq t v z _ _ j,by rw [run_neq_struct,e];rfl⟩⟩
  .simp [j] at h
 .simp at h
end
open Go
section
variable {P:Program} {w w':World} {A A':Nat->Prop} {c:Ctx} {ρ:Id->Option Value} {O:Id->Option Nat} {s:St} {cc:Option Bool}
theorem iu(b o j:Nat):(⟨b,o,none⟩:Addr).add j= ⟨b,o+j,none⟩:=by
 unfold Addr.add;split
 .rename_i h;subst h;rfl
 .rfl
theorem aV.bg{af:Nat}:∀{off:Nat} {cs:List T},aV w A af off cs->∃vs,aT w A cs vs/\∀j v,vs[j]? =some v->w.cell? ⟨af,off+j,none⟩=some v
 | _,[],_=>⟨[],rfl,by simp⟩
 | off,x::cs,h=>by
  simp only [aV] at h;obtain⟨⟨v,hv,g⟩,b⟩:=h;obtain⟨vs,d,f⟩:=aV.bg b;refine⟨v::vs,⟨v,vs,rfl,g,d⟩, ?_⟩;intro j u a;cases j with
  | zero=>simp at a;subst a;exact hv
  | succ j=>
   have:=f j u (by simpa using a);have e:off+1+j=off+ (j+1):=by omega
   rw [e] at this;exact this
theorem aT.one:∀{cs:List T} {vs:List Value},aT w A cs vs->∀u∈vs,u.oneCell'=true/\u.cells= #[u]
 | [],vs,h,u,hu=>by simp only [aT] at h;subst h;cases hu
 | x::cs,vs,⟨v,r,e,h1,a⟩,u,hu=>by
  subst e;rcases Vk.1 hu with rfl | hu
  .exact h1.qE
  .exact aT.one a u hu
theorem AJ{R:Type}(b:cc=none\/cc=some true):∀{n:Nat} {cs:List T} {K:List T->Option R} {r:R},pB cc n cs K=some r->∃l,l=cs.take n/\l.length=n/\K l=some r
 | 0,cs,K,r,h=>⟨[],by simp,rfl,h⟩
 | n+1,cs,K,r,h=>by
  simp only [pB] at h;replace h:=aO h b;obtain⟨x,a,h⟩:=h;obtain⟨l,h1,d,e⟩:=AJ b h;cases cs with
  | nil=>simp at a
  | cons y cs=>simp only [WS,U5] at a;subst a;exact⟨y::l,by simp [h1],by simp [d],e⟩
theorem EF:∀{n:Nat} {cs l:List AV},oo n cs=some l->l=cs.take n/\l.length=n
 | 0,cs,l,h=>by simp only [oo,U5] at h;subst h;simp
 | n+1,[],l,h=>by simp [oo] at h
 | n+1,x::cs,l,h=>by
  simp only [oo] at h;cases a:oo n cs with
  | none=>simp [a] at h
  | some q=>simp only [a,Vf,U5] at h;subst h;obtain⟨h1,b⟩:=EF a;exact⟨by simp [h1],by simp [b]⟩
theorem Eh{t:TypeId}(a:bV P t=true)(hb:bw P t=true)(b off:Nat)(vs:List Value)(e:vs.length=P.cellsOf t)(h:∀j v,vs[j]? =some v->w.cell? ⟨b,off+j,none⟩=some v):
  (loadVar t ⟨b,off,none⟩).run P w= .ok (.agg vs.toArray) w:=by
 unfold loadVar;simp only [Vy,td a,Vi,hb,if_true,jz a,<-e];rw [run_loadCells_list w ⟨b,off,none⟩ vs (λj v d=>by rw [iu];exact h j v d)];rfl
theorem Aw{t:TypeId}(a:bV P t=true)(hb:bw P t=false)(b off:Nat)(v:Value)(h:w.cell? ⟨b,off,none⟩=some v):
  (loadVar t ⟨b,off,none⟩).run P w= .ok v w:=by
 unfold loadVar;simp only [Vy,td a,Vi,hb,VD,if_false];rw [run_load,h]
theorem pE{R:Type}{k:Ck}{x:T}{v:Value}{K:T->Option R}{r:R}(e:cc=none\/cc=some true)(a:aA w A x v)(h:fG k cc x K=some r):
  ∃y,K y=some r/\aA w A y v:=by
 unfold fG at h;cases k with
 | i k=>simp only at h;replace h:=aO h e;obtain⟨n,d,h⟩:=h;rw [T.gH d] at a;exact⟨_,h,a⟩
 | b=>simp only at h;replace h:=aO h e;obtain⟨n,d,h⟩:=h;rw [T.ji d] at a;exact⟨_,h,a⟩
 | s=>simp only at h;replace h:=aO h e;obtain⟨n,d,h⟩:=h;rw [T.kO d] at a;exact⟨_,h,a⟩
 | l sz=>
  simp only at h;replace h:=aO h e;obtain⟨p,j,h⟩:=h;refine⟨_,h, ?_⟩;rcases T.qq j with rfl | ⟨rfl,g⟩
  .exact a
  .rw [g];simp only [aA] at a⊢;rcases a with⟨f,rfl⟩ | ⟨f,af,off,m,rfl⟩
   .exact .inl ⟨f,trivial,rfl⟩
   .exact .inr ⟨f,af,off,m,0,rfl,by simp, .inl trivial,trivial⟩
 | x=>exact⟨_,h,a⟩
theorem wH{R:Type}(d:cc=none\/cc=some true):∀{ks:List Ck} {xs:List T} {vs:List Value} {K:List T->Option R} {r:R},aT w A xs vs->fk cc ks xs K=some r->
  ∃b,K b=some r/\aT w A b vs
 | [],xs,vs,K,r,a,h=>⟨_,h,a⟩
 | _::_,[],vs,K,r,a,h=>⟨_,h,a⟩
 | k::ks,x::xs,vs,K,r,a,h=>by obtain⟨v,q,rfl,h1,g⟩:=a;simp only [fk] at h;obtain⟨y,h,e⟩:=pE d h1 h;obtain⟨b,h,f⟩:=wH d g h;exact⟨_,h,⟨v,q,rfl,e,f⟩⟩
theorem TO{R:Type}{k:Ck}{x:T}{K:T->Option R}{r:R}(b:cc=none\/cc=some true)(h:fG k cc x K=some r):
  ∃y,K y=some r/\∀(w:World) (A:Nat->Prop) (v:Value),aA w A x v->aA w A y v:=by
 have e:fG k cc x K= (fG k cc x some).bind K:=by rw [ot];rfl
 rw [e] at h;obtain⟨y,hy,h⟩:=U6.1 h;refine⟨y,h,λw A v a=> ?_⟩;obtain⟨z,hz,a⟩:=pE b a hy;simp only [U5] at hz;subst hz;exact a
theorem TQ{R:Type}{ks:List Ck}{xs:List T}{K:List T->Option R}{r:R}(b:cc=none\/cc=some true)(h:fk cc ks xs K=some r):
  ∃y,K y=some r/\∀(w:World) (A:Nat->Prop) (vs:List Value),aT w A xs vs->aT w A y vs:=by
 have e:fk cc ks xs K= (fk cc ks xs some).bind K:=by rw [tA];rfl
 rw [e] at h;obtain⟨y,hy,h⟩:=U6.1 h;refine⟨y,h,λw A v a=> ?_⟩;obtain⟨z,hz,a⟩:=wH b a hy;simp only [U5] at hz;subst hz;exact a
theorem TS{R:Type}{t:TypeId}{v:AV}{K:AV->Option R}{r:R}(b:cc=none\/cc=some true)(h:na P cc t v K=some r):
  ∃y,K y=some r/\∀(w:World) (A:Nat->Prop) (ρ:Id->Option Value) (u:Value),ao w A ρ v u->ao w A ρ y u:=by
 unfold na at h;split at h
 .obtain⟨y,h,g⟩:=TO b h;exact⟨_,h,λw A ρ u a=>by simp only [ao] at a⊢;exact g w A u a⟩
 .rename_i vs;split at h
  .rename_i l i;obtain⟨y,h,g⟩:=TQ b h;refine⟨_,h,λw A ρ u a=> ?_⟩;simp only [ao] at a⊢;obtain⟨d,e,h1,f⟩:=a;exact⟨d,e,aC.mj (g w A d (aT.mh i h1)),f⟩
  .exact⟨_,h,λw A ρ u a=>a⟩
 .exact⟨_,h,λw A ρ u a=>a⟩
theorem AO{R:Type}(b:cc=none\/cc=some true):∀{ts:List TypeId} {vs:List AV} {K:List AV->Option R} {r:R},jD P cc ts vs K=some r->
  ∃y,K y=some r/\∀(w:World) (A:Nat->Prop) (ρ:Id->Option Value) (us:List Value),aC w A ρ vs us->aC w A ρ y us
 | [],vs,K,r,h=>⟨_,h,λw A ρ u a=>a⟩
 | _::_,[],K,r,h=>⟨_,h,λw A ρ u a=>a⟩
 | t::ts,v::vs,K,r,h=>by simp only [jD] at h;obtain⟨y,h,d⟩:=TS b h;obtain⟨i,h,f⟩:=AO b h;refine⟨_,h,λw A ρ us a=> ?_⟩;simp only [aC] at a⊢;obtain⟨u,q,e,h1,g⟩:=a;exact⟨u,q,e,d w A ρ u h1,f w A ρ q g⟩
theorem zW{R:Type}{t:TypeId}(i:bV P t=true){b off:Nat}{cs:List T}{K:AV->Option R}{r:R}(d:cc=none\/cc=some true)(p:aV w A b off cs)(h:lh P t cc cs K=some r):
  ∃av v,K av=some r/\(loadVar t ⟨b,off,none⟩).run P w= .ok v w/\ao w A ρ av v:=by
 obtain⟨vs,h1,g⟩:=p.bg;unfold lh at h;cases hb:bw P t
 .simp only [hb,cond_false] at h;replace h:=aO h d;obtain⟨x,f,h⟩:=h;cases cs with
  | nil=>simp at f
  | cons y cs=>simp only [WS,U5] at f;subst f;obtain⟨v,q,rfl,a,_⟩:=h1;obtain⟨z,h,a⟩:=pE d a h;exact⟨_,v,h,Aw i hb b off v (by simpa using g 0 v rfl),by simpa [ao] using a⟩
 .simp only [hb,cond_true] at h;obtain⟨l,n,o,h⟩:=AJ d h;have a:=h1.take (P.cellsOf t);rw [<-n] at a;have k:=a.length;obtain⟨u,h,m⟩:=wH d a h;refine⟨_,_,h,Eh i hb b off _ (by rw [k,o]) (λj v e=>g j v ?_), ?_⟩
  .rw [XN] at e;split at e
   .exact e
   .cases e
  .simp only [ao];exact⟨_,rfl,aC.mj m,a.one⟩
theorem Qz{R:Type}{t:TypeId}(i:bV P t=true){b off:Nat}{cs:List AV}{vs:List Value}{K:AV->Option R}{r:R}(f:aC w A ρ cs vs)(h1:∀u∈vs,u.oneCell'=true/\u.cells= #[u])
  (g:∀j v,vs[j]? =some v->w.cell? ⟨b,off+j,none⟩=some v) (h:nN P t cs K=some r):
  ∃av v,K av=some r/\(loadVar t ⟨b,off,none⟩).run P w= .ok v w/\ao w A ρ av v:=by
 unfold nN at h;cases hb:bw P t
 .simp only [hb,cond_false] at h;cases cs with
  | nil=>simp at h
  | cons y cs=>simp only [WS,Vf] at h;simp only [aC] at f;obtain⟨v,q,rfl,a,_⟩:=f;exact⟨_,v,h,Aw i hb b off v (by simpa using g 0 v rfl),a⟩
 .simp only [hb,cond_true] at h;cases e:oo (P.cellsOf t) cs with
  | none=>simp [e] at h
  | some l=>
   simp only [e,Vf] at h;obtain⟨m,n⟩:=EF e;have a:=f.take (P.cellsOf t);rw [<-m] at a;have k:=a.length;refine⟨_,_,h,Eh i hb b off _ (by rw [k,n]) (λj v d=>g j v ?_), ?_⟩
   .rw [XN] at d;split at d
    .exact d
    .cases d
   .simp only [ao];exact⟨_,rfl,a,λu o=>h1 u (WZ o)⟩
theorem BS{i:Id}{cs:List AV}(hs:HS c w s.h ρ O)(hi:s.h i=some (.box cs)):∃b arr t,ρ i=some (.pointer (some ⟨b,0,none⟩))/\O i=some b/\w.heap[b]? =some (.cells arr t (0,0))/\
  aC w (AA c w O) ρ cs arr.toList/\(∀u∈arr.toList,u.oneCell'=true/\u.cells= #[u])/\∀j v,arr.toList[j]? =some v->w.cell? ⟨b,j,none⟩=some v:=by
 obtain⟨b,arr,t,h1,d,a,e,f⟩:=hs.af i _ hi;refine⟨b,arr,t,h1,d,a,e,f,λj v g=> ?_⟩;simp only [World.cell?,a];simpa using g
theorem qR{i:Id}{a b:Bool}{sz:Nat}{l:List (List T)}(hs:HS c w s.h ρ O)(hi:s.h i=some (.sl a sz b l)):∃v,ρ i=some v/\cU w (AA c w O) sz b l v (λaf=>if a=true then AA c w O af else O i=some af):=by obtain⟨v,h1,d,_⟩:=hs.af i _ hi;exact⟨v,h1,d⟩
theorem cw.get{i:Id}{af sz aD rsz:Nat}:∀{es:List Row} {base k:Nat} {e:Row},cw w A ρ O i af sz aD rsz base es->es[k]? =some e->je w A ρ O i af sz aD rsz (base+k * sz) e
 | [],_,_,_,_,h=>by simp at h
 | x::es,base,0,e,a,h=>by simp only [Xn,U5] at h;subst h;simpa using a.1
 | x::es,base,k+1,e,a,h=>by have:=cw.get a.2 (k:=k) (by simpa using h);rw [show base+ (k+1) * sz=base+sz+k * sz by rw [Wn];omega];exact this
theorem cw.own{i:Id}{af sz aD rsz n:Nat}{p:Bool×List (List T)}:∀{es:List Row} {base:Nat},cw w A ρ O i af sz aD rsz base es->bC n es=some p->∃v,ρ (.g i n)=some v/\cU w A rsz p.1 p.2 v (λb=>O (.g i n)=some b)
 | [],_,_,h=>by simp [bC] at h
 | e::es,base,f,h=>by
  unfold bC at h;split at h
  .rename_i j;obtain⟨_,_,_,v,_,d,a⟩:=f.1;rw [h] at a;rw [j] at d a;exact⟨v,d,a⟩
  .exact cw.own f.2 h
theorem Au{i:Id}{b:Bool}{sz aD rsz nx n:Nat}{es:List Row}{p:Bool×List (List T)}(hs:HS c w s.h ρ O)(hi:s.h i=some (.rows b sz aD rsz nx es))(e:bC n es=some p):
  ∃v,ρ (.g i n)=some v/\cU w (AA c w O) rsz p.1 p.2 v (λb=>O (.g i n)=some b):=by
 obtain⟨a,cap,h1,j,k,l,d⟩:=hs.af i _ hi;rcases d with d | ⟨af,off,arr,t,q1,m,o,q,f⟩
 .have:es= []:=Vq.1 (by omega);subst this;simp [bC] at e
 .exact f.own e
theorem Ee{R:Type}{i:Id}{n:Nat}{K:Nat->Bool->List (List T)->Option R}{r:R}(hs:HS c w s.h ρ O)(d:cc=none\/cc=some true)(h:mq s.h cc i n K=some r):
  ∃rsz b xs v,K rsz b xs=some r/\ρ (.g i n)=some v/\cU w (AA c w O) rsz b xs v (λaf=>O (.g i n)=some af):=by
 unfold mq at h;split at h
 .rename_i hi;replace h:=aO h d;obtain⟨p,e,h⟩:=h;obtain⟨v,h1,a⟩:=Au hs hi e;exact⟨_,_,_,v,h,h1,a⟩
 .cases h
theorem je.bg{i:Id}{af sz aD rsz base:Nat}{e:Row}(h:je w A ρ O i af sz aD rsz base e):∃vs:List Value,vs.length=sz/\(∀j v,vs[j]? =some v->w.cell? ⟨af,base+j,none⟩=some v)/\
  (∀j x v,j≠aD->e.cs[j]? =some x->vs[j]? =some v->aA w A x v)/\∃v,vs[aD]? =some v/\ρ (.g i e.n)=some v:=by
 obtain⟨h1,t,l,v,m,y,D⟩:=h;have o:∀j,j < sz->∃u,w.cell? ⟨af,base+j,none⟩=some u:=by
  intro j a;by_cases d:j=aD
  .subst d;exact⟨v,m⟩
  .obtain⟨u,g,_⟩:=l j (e.cs[j]'(by omega)) d (Vb _);exact⟨u,g⟩
 have get:∀j u,((List.range sz).map λj=>(w.cell? ⟨af,base+j,none⟩).getD undef)[j]? =some u->w.cell? ⟨af,base+j,none⟩=some u:=by intro j u a;rw [VS] at a;obtain⟨k,b,a⟩:=XK.1 a;obtain⟨p,b⟩:=Vh.1 b;rw [XO] at b;subst b;obtain⟨C,q⟩:=o j (by simpa using p);rw [q] at a⊢;simpa using a
 refine⟨_,by simp,get,λj x u a B z=> ?_,v, ?_,y⟩
 .obtain⟨C,f,r⟩:=l j x a B;rw [get j u z] at f;cases f;exact r
 .rw [VS,Yz t];simp [m]
theorem aC.vM:∀{as:List AV} {vs:List Value},as.length=vs.length->(∀(j:Nat) (a:AV) (v:Value),as[j]? =some a->vs[j]? =some v->ao w A ρ a v)->aC w A ρ as vs
 | [],[],_,_=>by simp [aC]
 | [],_::_,h,_=>by simp at h
 | _::_,[],h,_=>by simp at h
 | a::as,v::vs,h,b=>by simp only [aC];exact⟨v,vs,rfl,b 0 a v rfl rfl,aC.vM (by simpa using h) λj a v h1 d=>b (j+1) a v (by simpa using h1) (by simpa using d)⟩
theorem Lv{R:Type}(o:cc=none\/cc=some true):∀{ks:List Ck} {xs:List T} {vs:List Value} {aD:Nat} {K:List T->Option R} {r:R},xs.length=vs.length->(∀(j:Nat) (x:T) (v:Value),j≠aD->xs[j]? =some x->vs[j]? =some v->aA w A x v)->
  (∀k,ks[aD]? =some k->k= .x)->fk cc ks xs K=some r->∃d,K d=some r/\d.length=vs.length/\∀j x v,j≠aD->d[j]? =some x->vs[j]? =some v->aA w A x v
 | [],xs,vs,aD,K,r,b,e,i,h=>⟨xs,h,b,e⟩
 | k::ks,[],vs,aD,K,r,b,e,i,h=>⟨[],h,b,by simp⟩
 | k::ks,x::xs,[],aD,K,r,b,e,i,h=>by simp at b
 | k::ks,x::xs,v::vs,0,K,r,b,e,i,h=>by
  simp only [fk] at h;have:k= .x:=i k rfl;subst this;simp only [fG] at h;have C:aT w A xs vs:=by
   have z:∀(xs:List T) (vs:List Value),xs.length=vs.length->(∀(j:Nat) (x:T) (v:Value),xs[j]? =some x->vs[j]? =some v->aA w A x v)->aT w A xs vs:=by
    intro xs;induction xs with
    | nil=>intro vs b _;cases vs;rfl;simp at b
    | cons x xs t=>
     intro vs b e;cases vs with
     | nil=>simp at b
     | cons v vs=>exact⟨v,vs,rfl,e 0 x v rfl rfl,t vs (by simpa using b) λj x v h1 f=>e (j+1) x v (by simpa using h1) (by simpa using f)⟩
   exact z xs vs (by simpa using b) λj x v h1 f=>e (j+1) x v (by omega) (by simpa using h1) (by simpa using f)
  obtain⟨d,h,g⟩:=wH o C h;have gl:=g.length;refine⟨_,h,by simp;omega,λj y u p hy l=> ?_⟩;cases j with
  | zero=>exact(p rfl).elim
  | succ j=>
   simp only [Xo] at hy l;have:∀(d:List T) (vs:List Value) (j:Nat),aT w A d vs->d[j]? =some y->vs[j]? =some u->aA w A y u:=by
    intro d;induction d with
    | nil=>intro vs j _ h;simp at h
    | cons a d t=>
     rintro vs j ⟨E,q,rfl,m,n⟩ h1 f;cases j with
     | zero=>simp at h1 f;subst h1;subst f;exact m
     | succ j=>exact t q j n (by simpa using h1) (by simpa using f)
   exact this d vs j g hy l
 | k::ks,x::xs,v::vs,aD+1,K,r,b,e,i,h=>by
  simp only [fk] at h;obtain⟨y,h,m⟩:=pE o (e 0 x v (by omega) rfl rfl) h;obtain⟨d,h,n,D⟩:=Lv o (aD:=aD) (by simpa using b) (λj x v p h1 f=>e (j+1) x v (by omega) (by simpa using h1) (by simpa using f)) (λk B=>i k (by simpa using B)) h;refine⟨_,h,by simp [n],λj y' u p hy l=> ?_⟩;cases j with
  | zero=>simp at hy l;subst hy;subst l;exact m
  | succ j=>exact D j y' u (by omega) (by simpa using hy) (by simpa using l)
theorem Qw{R:Type}{t:TypeId}{i:Id}{af sz aD rsz base off:Nat}{e:Row}{h:Id->Option ab}{K:AV->Option R}{r:R}(hs:HS c w h ρ O)(B:bV P t=true)(n:cc=none\/cc=some true)(g:je w (AA c w O) ρ O i af sz aD rsz base e)(b:sK P t cc i sz aD off e K=some r):
  ∃av v,K av=some r/\(loadVar t ⟨af,base+off,none⟩).run P w= .ok v w/\ao w (AA c w O) ρ av v:=by
 unfold sK at b;cases hb:bw P t
 .simp only [hb,cond_false] at b;split at b
  .rename_i d;subst d;obtain⟨_,_,_,v,J,L,_⟩:=g;exact⟨_,v,b,Aw B hb _ _ v J,by simp only [ao];exact L⟩
  .rename_i E;replace b:=aO b n;obtain⟨x,q,b⟩:=b;have F:e.cs[off]? =some x:=by rw [List.head?_drop] at q;exact q
   obtain⟨u,z,m⟩:=g.2.2.1 off x E F;obtain⟨y,b,I⟩:=pE n m b;exact⟨_,u,b,Aw B hb _ _ u z,by simp only [ao];exact I⟩
 .simp only [hb,cond_true] at b;split at b
  .rename_i o;obtain⟨rfl,W⟩:=o;obtain⟨l,N,X,b⟩:=AJ n b;have Q:=g.1;have D:l=e.cs:=by rw [N,We (by omega)]
   subst D;obtain⟨vs,Y,T,U,Z,G,H⟩:=g.bg;have M:=g.2.1;obtain⟨V,b,z,m⟩:=Lv n (ks:=(uv P t).set aD .x) (aD:=aD) (by omega) U (λk b=>by
    rw [WE] at b;simp only [if_true] at b;split at b
    .simpa using b.symm
    .cases b) b
   refine⟨_, .agg vs.toArray,b, ?_, ?_⟩
   .rw [X1];exact Eh B hb _ _ vs (by omega) T
   .simp only [ao];refine⟨vs,rfl,aC.vM (by simp [z]) λj a v f hv=> ?_,λu S=> ?_⟩
    .rw [WE] at f;by_cases d:aD=j
     .subst d;rw [if_pos rfl] at f;split at f
      .simp only [U5] at f;subst f;rw [G] at hv;cases hv;simp only [ao];exact H
      .cases f
     .rw [if_neg d,VS] at f;obtain⟨x,q,rfl⟩:=XK.1 f;simp only [ao];exact m j x v (λe=>d e.symm) q hv
    .obtain⟨j,p⟩:=Yg.1 S;by_cases d:j=aD
     .subst d;rw [G] at p;cases p;exact hs.gone _ _ _ H
     .have C:j < V.length:=by have:=(Vh.1 p).1;omega
      exact(m j _ u d (Vb C) p).qE
  .cases b
theorem IX{R:Type}{t:TypeId}{a:AV}{va:Value}{K:AV->Option R}{r:R}(hs:HS c w s.h ρ O)(f:ao w (AA c w O) ρ a va)(g:cc=none\/cc=some true)(h:kF P s cc t a K=some r):
  ∃av v,K av=some r/\(Instr.loadAt t va).run P w= .ok v w/\ao w (AA c w O) ρ av v:=by
 unfold kF at h;cases B:bV P t
 .simp [B] at h
 simp only [B,cond_true] at h;split at h
 .rename_i i off;split at h
  .rename_i cs hi;obtain⟨b,arr,Q,h1,F,W,M,C,h6⟩:=BS hs hi;simp only [ao] at f;obtain⟨b',d,rfl⟩:=f;rw [h1] at d;simp only [U5,Xe,Wq] at d;obtain⟨rfl,_⟩:=d;obtain⟨av,v,p,H,I⟩:=Qz (b:=b) (off:=off) B (M.drop off) (λu hu=>C u (Xm hu)) (λj v X=>h6 _ v (by rw [XP] at X;exact X)) h;exact⟨av,v,p,by simpa [Instr.loadAt,Instr.sureAddr] using H,I⟩
  .rename_i l hi;obtain⟨b,h1,F,W,M⟩:=hs.af i _ hi;simp only [ao] at f;obtain⟨b',d,rfl⟩:=f;rw [h1] at d;simp only [U5,Xe,Wq] at d;obtain⟨rfl,_⟩:=d;have C:=M.drop off;rw [VM] at C;obtain⟨av,v,p,H,I⟩:=zW B g C h;exact⟨av,v,p,by simpa [Instr.loadAt,Instr.sureAddr] using H,I⟩
  .simp at h
 .rename_i i sz k off;split at h
  .rename_i fz Z bb xs hi;split at h
   .rename_i z;subst z;replace h:=aO h g;obtain⟨cs,m,h⟩:=h;obtain⟨v,h1,F⟩:=qR hs hi;simp only [ao] at f;obtain⟨b,o,L,cap,d,rfl⟩:=f;rw [h1] at d;simp only [U5] at d;subst d;obtain⟨a',cap',p,H,I,g4,J⟩:=F;simp only [WG] at p;obtain⟨rfl,rfl,rfl⟩:=p;have N:k < xs.length:=(Vh.1 m).1;rcases J with J | ⟨af,off',arr,Q,y,S,U,V,q⟩
    .omega
    .simp only [U5,Wq] at y;obtain⟨rfl,rfl,_⟩:=y;obtain⟨_,G⟩:=q.get m;obtain⟨av,v,q1,D,E⟩:=zW (ρ:=ρ) B g (G.drop off) h;exact⟨av,v,q1,by simpa [Instr.loadAt,Instr.sureAddr] using D,E⟩
   .simp at h
  .rename_i bb Z aD rsz nx es hi;split at h
   .rename_i z;subst z;replace h:=aO h g;obtain⟨e,m,h⟩:=h;obtain⟨a,cap,h1,F,W,M,C⟩:=hs.af i _ hi;simp only [ao] at f;obtain⟨b,o,L,cap',d,rfl⟩:=f;rw [h1] at d;simp only [U5,WG] at d;obtain⟨rfl,rfl,rfl⟩:=d;have N:k < es.length:=(Vh.1 m).1;rcases C with C | ⟨af,off',arr,Q,y,S,U,V,q⟩
    .omega
    .simp only [U5,Wq] at y;obtain⟨rfl,rfl,_⟩:=y;obtain⟨av,v,q1,D,E⟩:=Qw hs B g (q.get m) h;exact⟨av,v,q1,by simpa [Instr.loadAt,Instr.sureAddr] using D,E⟩
   .simp at h
  .simp at h
 .rename_i i sz n k off;replace h:=Ee hs g h;obtain⟨rsz,bb,xs,v,h,hv,Y⟩:=h;split at h
  .rename_i z;subst z;replace h:=aO h g;obtain⟨cs,m,h⟩:=h;simp only [ao] at f;obtain⟨b,o,L,cap,d,rfl⟩:=f;rw [hv] at d;simp only [U5] at d;subst d;obtain⟨a',cap',p,H,I,g4,J⟩:=Y;simp only [WG] at p;obtain⟨rfl,rfl,rfl⟩:=p;have N:k < xs.length:=(Vh.1 m).1;rcases J with J | ⟨af,off',arr,Q,y,S,U,V,q⟩
   .omega
   .simp only [U5,Wq] at y;obtain⟨rfl,rfl,_⟩:=y;obtain⟨_,G⟩:=q.get m;obtain⟨av,v,q1,D,E⟩:=zW (ρ:=ρ) B g (G.drop off) h;exact⟨av,v,q1,by simpa [Instr.loadAt,Instr.sureAddr] using D,E⟩
  .simp at h
 .rename_i x;replace h:=aO h g;obtain⟨cs,m,h⟩:=h;have:=T.Ai m;subst this;simp only [ao,aA] at f;obtain⟨af,off,rfl,h1,F⟩:=f;obtain⟨av,v,q1,D,E⟩:=zW (ρ:=ρ) B g F h;exact⟨av,v,q1,by simpa [Instr.loadAt,Instr.sureAddr] using D,E⟩
 .simp at h
theorem CT{t:TypeId}{f:Nat}{p:Nat×TypeId}(h:uX P t f=some p):∃a x,P.underlying t=some (.struct a)/\a[f]? =some x/\p= (x.offset,x.type)/\bV P p.2=true:=by
 unfold uX at h;split at h
 .rename_i a d;split at h
  .rename_i x e;cases b:bV P x.type
   .simp [b] at h
   .simp only [b,cond_true,U5] at h;subst h;exact⟨a,x,d,e,rfl,b⟩
  .simp at h
 .simp at h
theorem ze{t e:TypeId}(h:nE P t=some e):P.underlying t=some (.slice e)/\bV P e=true:=by
 unfold nE at h;split at h
 .rename_i e' b;cases a:bV P e'
  .simp [a] at h
  .simp only [a,cond_true,U5] at h;subst h;exact⟨b,a⟩
 .simp at h
theorem Fv{t:TypeId}{p:Nat×TypeId}(h:yz P t=some p):P.underlying t=some (.array p.1 p.2)/\bV P p.2=true:=by
 unfold yz at h;split at h
 .rename_i n e' b;cases a:bV P e'
  .simp [a] at h
  .simp only [a,cond_true,U5] at h;subst h;exact⟨b,a⟩
 .simp at h
theorem PQ{R:Type}{t:TypeId}{x:AV}{m:Value}{f:Nat}{K:AV->Option R}{r:R}(a:ao w A ρ x m)(B:cc=none\/cc=some true)(h:sv P cc t x f K=some r):
  ∃av v,K av=some r/\(Instr.fieldAt t m f).run P w= .ok v w/\ao w A ρ av v:=by
 unfold sv at h;split at h
 .rename_i off u C;obtain⟨E,y,h1,q,l,z⟩:=CT C;simp only [Wk] at l;obtain⟨rfl,rfl⟩:=l;split at h
  .simp at h
  .rename_i hz;have d:∀b o,(Instr.fieldAt t (.pointer (some ⟨b,o,none⟩)) f).run P w= .ok (.pointer (some ⟨b,o+y.offset,none⟩)) w:=by
    intro b o;simp [Instr.fieldAt,run_underlying h1,q,Instr.sureAddr,fieldPlace,jz z,hz,iu]
   split at h
   .rename_i j o;simp only [ao] at a;obtain⟨b,e,rfl⟩:=a;exact⟨_,_,h,d _ _,by simp only [ao];exact⟨b,e,rfl⟩⟩
   .rename_i j sz k o;simp only [ao] at a;obtain⟨b,i,L,cap,e,rfl⟩:=a;exact⟨_,_,h,d _ _,by simp only [ao];exact⟨b,i,L,cap,e,by rw [XT]⟩⟩
   .rename_i j sz n k o;simp only [ao] at a;obtain⟨b,i,L,cap,e,rfl⟩:=a;exact⟨_,_,h,d _ _,by simp only [ao];exact⟨b,i,L,cap,e,by rw [XT]⟩⟩
   .rename_i y';replace h:=aO h B;obtain⟨cs,D,h⟩:=h;have:=T.Ai D;subst this;simp only [ao,aA] at a;obtain⟨af,o,rfl,g,p⟩:=a;refine⟨_,_,h,d _ _, ?_⟩;simp only [ao,aA];refine⟨af,_,rfl, ?_,p.drop _⟩;rcases g with rfl | g
    .exact .inl (by simp)
    .exact .inr g
   .simp at h
 .simp at h
theorem oW{R:Type}{i:Int}{n:Nat}{K:Option R}{r:R}(b:cc=none\/cc=some true)(h:kC cc i n K=some r): 0<=i/\i < n/\K=some r:=by
 unfold kC at h;replace h:=aO h b;obtain⟨_,h1,h⟩:=h;split at h1
 .rename_i a;exact⟨a.1,a.2,h⟩
 .simp at h1
theorem Qe{R:Type}{t:TypeId}{x:AV}{vx:Value}{i:Int}{ki:IntKind}{K:AV->Option R}{r:R}(hs:HS c w s.h ρ O)(d:ao w (AA c w O) ρ x vx)(u:cc=none\/cc=some true)(h:jR P s cc t x i K=some r):
  ∃av v,K av=some r/\(Instr.indexAt t vx (.int ki i)).run P w= .ok v w/\ao w (AA c w O) ρ av v:=by
 unfold jR at h;split at h
 .rename_i e J;obtain⟨M,F⟩:=ze J;have f:∀b o len cap,0<=i->i < (len:Nat)->(Instr.indexAt t (.slice (some ⟨b,o,none⟩) len cap) (.int ki i)).run P w= .ok (.pointer (some ⟨b,o+i.toNat * P.cellsOf e,none⟩)) w:=by
   intro b o len cap l h1;simp [Instr.indexAt,asIntOf,run_underlying M,l,h1,jz F,iu]
  split at h
  .rename_i j;split at h
   .rename_i fz sz bb xs D;split at h
    .rename_i q;subst q;obtain⟨l,h1,h⟩:=oW u h;obtain⟨v,g,m⟩:=qR hs D;simp only [ao] at d;rw [g] at d;simp only [U5] at d;subst d;obtain⟨I,cap',q1,Z,q3,q4,z⟩:=m;rcases z with z | ⟨af,off',arr,U,C,N,Q,S,G⟩
     .omega
     .subst C;subst q1;exact⟨_,_,h,f _ _ _ _ l h1,by simp only [ao];exact⟨af,off',_,_,g,by simp⟩⟩
    .simp at h
   .rename_i bb sz aD rsz nx es D;split at h
    .rename_i q;subst q;obtain⟨l,h1,h⟩:=oW u h;obtain⟨a,cap,g,m,W,g4,H⟩:=hs.af j _ D;simp only [ao] at d;rw [g] at d;simp only [U5] at d;subst d;rcases H with H | ⟨af,off',arr,U,C,N,Q,S,G⟩
     .omega
     .subst C;exact⟨_,_,h,f _ _ _ _ l h1,by simp only [ao];exact⟨af,off',_,_,g,by simp⟩⟩
    .simp at h
   .simp at h
  .rename_i j n;replace h:=Ee hs u h;obtain⟨rsz,bb,xs,v,h,hv,Y⟩:=h;split at h
   .rename_i q;subst q;obtain⟨l,h1,h⟩:=oW u h;simp only [ao] at d;rw [hv] at d;simp only [U5] at d;subst d;obtain⟨I,cap',q1,Z,q3,q4,z⟩:=Y;rcases z with z | ⟨af,off',arr,U,C,N,Q,S,G⟩
    .omega
    .subst C;subst q1;exact⟨_,_,h,f _ _ _ _ l h1,by simp only [ao];exact⟨af,off',_,_,hv,by simp⟩⟩
   .simp at h
  .rename_i j sz off n;split at h
   .rename_i fz sz' bb xs D;split at h
    .rename_i q;obtain⟨rfl,rfl⟩:=q;obtain⟨l,h1,h⟩:=oW u h;obtain⟨v,g,m⟩:=qR hs D;simp only [ao] at d;obtain⟨a,L,cap,I,B,e2,e3,rfl,e4⟩:=d;rw [g] at B;simp only [U5] at B;subst B;obtain⟨a'',cap'',q1,Z,q3,q4,z⟩:=m;simp only [WG] at q1;obtain⟨rfl,rfl,rfl⟩:=q1;rcases z with z | ⟨af,off',arr,U,C,N,Q,S,G⟩
     .omega
     .subst C;have ea:I=some ⟨af,off'+off * P.cellsOf e,none⟩:=by
       rcases e4 with⟨rfl,rfl⟩ | ⟨rfl,_⟩ | ⟨b,o,V,e6⟩
       .simp
       .omega
       .simp only [U5,Wq] at V;obtain⟨rfl,rfl,_⟩:=V;exact e6
      subst ea;refine⟨_,_,h,f _ _ _ _ l h1, ?_⟩;simp only [ao];exact⟨af,off',_,_,g,by congr 3;rw [XL];omega⟩
    .simp at h
   .simp at h
  .rename_i y;replace h:=aO h u;obtain⟨p,hp,h⟩:=h;obtain⟨l,h1,h⟩:=oW u h;replace h:=aO h u;obtain⟨cs,E,h⟩:=h;rcases T.qq hp with rfl | ⟨rfl,X⟩
   .simp only [ao,aA] at d;rcases d with⟨_,e,_⟩ | ⟨_,af,off,sp,cap,rfl,g,m,W⟩
    .rw [e] at h1;simp at h1;omega
    .rcases m with m | ⟨rfl,m⟩
     .rw [m] at E;simp at E
     refine⟨_,_,h,f _ _ _ _ l h1, ?_⟩;obtain⟨g4,H⟩:=W.get E;simp only [ao,aA];exact⟨af,_,rfl, .inr m,H⟩
   .rw [X] at h1;simp at h1;omega
  .simp at h
 .split at h
  .rename_i n e J;obtain⟨M,F⟩:=Fv J;obtain⟨l,h1,h⟩:=oW u h;have f:∀b o,(Instr.indexAt t (.pointer (some ⟨b,o,none⟩)) (.int ki i)).run P w= .ok (.pointer (some ⟨b,o+i.toNat * P.cellsOf e,none⟩)) w:=by
    intro b o;simp [Instr.indexAt,asIntOf,run_underlying M,Instr.sureAddr,l,h1,jz F,iu]
   split at h
   .rename_i j off;simp only [ao] at d;obtain⟨b,B,rfl⟩:=d;exact⟨_,_,h,f _ _,by simp only [ao];exact⟨b,B,rfl⟩⟩
   .rename_i j sz k off;simp only [ao] at d;obtain⟨b,o',L,cap,B,rfl⟩:=d;exact⟨_,_,h,f _ _,by simp only [ao];exact⟨b,o',L,cap,B,by rw [XT]⟩⟩
   .rename_i y;replace h:=aO h u;obtain⟨cs,E,h⟩:=h;have:=T.Ai E;subst this;simp only [ao,aA] at d;obtain⟨af,o,rfl,g,m⟩:=d;refine⟨_,_,h,f _ _, ?_⟩;simp only [ao,aA];refine⟨af,_,rfl, ?_,m.drop _⟩;rcases g with rfl | g
    .exact .inl (by simp)
    .exact .inr g
   .simp at h
  .simp at h
end
open Go
section
variable {P:Program} {w w':World} {A A':Nat->Prop} {c:Ctx} {ρ:Id->Option Value} {O:Id->Option Nat} {s:St} {cc:Option Bool}
theorem Qq{R:Type}{t ty:TypeId}{ts:Array TypeId}{x:AV}{u:Value}{K:AV->Option R}{r:R}(hs:HS c w s.h ρ O)(d:ao w (AA c w O) ρ x u)(l:cc=none\/cc=some true)(h:nM P s cc t x K=some r)
  (g:ts[0]? =some t):∃av v,K av=some r/\(Builtin.len_ ts ty #[u]).run P w= .ok v w/\ao w (AA c w O) ρ av v:=by
 unfold nM at h;split at h
 .rename_i i;split at h
  .rename_i y;replace h:=aO h l;obtain⟨b,hb,h⟩:=h;have:=T.kO hb;subst this;simp only [ao,aA] at d;subst d;exact⟨_,_,h,by simp [Builtin.len_,g,run_underlying i];rfl,by simp only [ao];exact gS _ _ _ _⟩
  .simp at h
 .rename_i n e i;exact⟨_,_,h,by simp [Builtin.len_,g,run_underlying i];rfl,by simp only [ao];exact gS _ _ _ _⟩
 .rename_i e i;have f:∀a n cap,(Builtin.len_ ts ty #[.slice a n cap]).run P w= .ok (goInt n) w:=by
   intro a n cap;simp [Builtin.len_,g,run_underlying i]
  split at h
  .rename_i j;split at h
   .rename_i E sz bb xs m;obtain⟨v,k,o,cap',q1,H,I,J,M⟩:=qR hs m;simp only [ao] at d;rw [k] at d;simp only [U5] at d;subst d;subst q1;exact⟨_,_,h,f _ _ _,by simp only [ao];exact gS _ _ _ _⟩
   .rename_i bb sz aD rsz nx es m;obtain⟨a,cap,k,_⟩:=hs.af j _ m;simp only [ao] at d;rw [k] at d;simp only [U5] at d;subst d;exact⟨_,_,h,f _ _ _,by simp only [ao];exact gS _ _ _ _⟩
   .simp at h
  .rename_i j n;replace h:=Ee hs l h;obtain⟨rsz,bb,xs,v,h,hv,o,cap',q1,_⟩:=h;simp only [ao] at d;rw [hv] at d;simp only [U5] at d;subst d;subst q1;exact⟨_,_,h,f _ _ _,by simp only [ao];exact gS _ _ _ _⟩
  .rename_i j sz off n;simp only [ao] at d;obtain⟨a,L,cap,o,C,e2,e3,rfl,D⟩:=d;exact⟨_,_,h,f _ _ _,by simp only [ao];exact gS _ _ _ _⟩
  .rename_i y;replace h:=aO h l;obtain⟨p,z,h⟩:=h;rcases T.qq z with rfl | ⟨rfl,q⟩
   .simp only [ao,aA] at d;rcases d with⟨_,e,rfl⟩ | ⟨_,af,off,B,cap,rfl,k,F,G⟩
    .refine⟨_,_,h,f _ _ _, ?_⟩;simp only [ao,e];exact gS _ _ _ _
    .exact⟨_,_,h,f _ _ _,by simp only [ao];exact gS _ _ _ _⟩
   .simp only [ao,aA] at d;rw [q] at h;rcases d with⟨_,rfl⟩ | ⟨_,af,off,B,rfl⟩ <;> exact⟨_,_,h,f _ _ _,by simp only [ao];exact gS _ _ _ _⟩
  .simp at h
 .simp at h
theorem BI{x:T}{n:Int}(h:jk.anyInt x=some n):∃k,x= .int k n:=by cases x <;> simp_all [jk.anyInt]
def jI(b:Option Int)(v:Option Value):Prop:=match b,v with
 | none,none=>True
 | some n,some (.int _ m)=>m=n
 | _,_=>False
theorem BR{R:Type}{a:Act}{g:Option Gs}{o:Option Operand}{K:Option Int->Option R}{r:R}(j:SS w A ρ s.t a.tmps)(i:kQ a.tmps g)(e:cc=none\/cc=some true)(h:jk s cc g o K=some r):
  ∃b,K b=some r/\jI b (o.map a.eval):=by
 unfold jk at h;split at h
 .exact⟨none,h,trivial⟩
 .rename_i o;cases d:(s.get g o).t? with
  | none=>simp [d] at h
  | some x=>simp only [d,Vf] at h;replace h:=aO h e;obtain⟨n,f,h⟩:=h;obtain⟨k,rfl⟩:=BI f;have:=SS.get (h:=s.h) j i o;rw [show(⟨s.t,s.h⟩:St)=s from rfl,AV.mA d] at this;simp only [ao,aA] at this;exact⟨some n,h,by simp [jI,this]⟩
theorem zL{a hi n:Int}(h:bO a hi n=some ()): 0<=a/\a<=hi/\hi<=n:=by
 unfold bO at h;split at h
 .assumption
 .simp at h
theorem xg{v:Option Value}(h:jI none v):v=none:=by cases v <;> simp_all [jI]
theorem rA{n:Int}{v:Option Value}(h:jI (some n) v):∃k,v=some (.int k n):=by
 cases v with
 | none=>simp [jI] at h
 | some v=>cases v <;> simp_all [jI]
theorem tc(k:IntKind)(n:Int)(y:Nat)(a:BoundsCode)(b: 0<=n)(h1:n<=y):(Instr.sliceBound (.int k n) y a).run P w= .ok n.toNat w:=run_sliceBound w k n y a b h1
theorem Kl(o:Bool){b hi:Option Int}{i g:Option Value}{len cap:Nat}(f:jI b i)(l:jI hi g)(h1: 0<=b.getD 0)(d:b.getD 0<=hi.getD len)(j:hi.getD len<=cap):
  (Instr.sliceBounds o len cap i g none).run P w= .ok ((b.getD 0).toNat,(hi.getD len).toNat,cap) w:=by
 cases hi with
 | none=>
  have:=xg l;subst this;simp only [VZ] at d j⊢;cases b with
  | none=>have:=xg f;subst this;simp [Instr.sliceBounds]
  | some n=>obtain⟨k,rfl⟩:=rA f;simp only [Vx] at h1 d⊢;have e:=tc (P:=P) (w:=w) k n len .sliceB h1 d;simp [Instr.sliceBounds,e]
 | some m=>
  obtain⟨p,rfl⟩:=rA l;simp only [Vx] at d j⊢;have e':∀a,(Instr.sliceBound (.int p m) cap a).run P w= .ok m.toNat w:=λa=>tc p m cap a (by omega) j;cases b with
  | none=>have:=xg f;subst this;simp [Instr.sliceBounds,e']
  | some n=>obtain⟨k,rfl⟩:=rA f;simp only [Vx] at h1 d⊢;have e:=tc (P:=P) (w:=w) k n m.toNat .sliceB h1 (by omega);simp [Instr.sliceBounds,e,e']
theorem Tq{R:Type}{t:TypeId}{x:AV}{vx:Value}{g hi mx:Option Int}{S Q E:Option Value}{K:AV->Option R}{r:R}(hs:HS c w s.h ρ O)(q:ao w (AA c w O) ρ x vx)(I:cc=none\/cc=some true)
  (hl:jI g S) (hh:jI hi Q) (hm:jI mx E) (h:oc P s cc t x g hi mx K=some r):
  ∃av v,K av=some r/\(Instr.sliceAt t vx S Q E).run P w= .ok v w/\ao w (AA c w O) ρ av v:=by
 unfold oc at h;split at h
 .rename_i Z;split at h
  .rename_i y;replace h:=aO h I;obtain⟨b,hb,h⟩:=h;have:=T.kO hb;subst this;simp only [ao,aA] at q;subst q;replace h:=aO h I;obtain⟨_,hb,h⟩:=h;obtain⟨h1,l,B⟩:=zL hb;have hvm:E=none:=by cases E with | none=>rfl | some v=>simp [jI] at hm
   subst hvm;refine⟨_,_,h, ?_,by simp only [ao];exact mn _ _ _⟩;have:=Kl (P:=P) (w:=w) false (len:=b.size) (cap:=b.size) hl hh h1 l B;simp [Instr.sliceAt,Instr.slice,run_underlying Z,this]
  .simp at h
 .rename_i e Z;split at h
  .have hvm:E=none:=by cases E with | none=>rfl | some v=>simp [jI] at hm
   subst hvm
   have z:bV P e=true->∀(a:Option Addr) (len cap:Nat),0<=g.getD 0->g.getD 0<=hi.getD len->hi.getD len<=cap->
     (Instr.sliceAt t (.slice a len cap) S Q none).run P w= .ok (.slice (if cap= (g.getD 0).toNat then a else a.map (·.add ((g.getD 0).toNat * P.cellsOf e))) ((hi.getD len).toNat - (g.getD 0).toNat) (cap - (g.getD 0).toNat)) w:=by
    intro f a len cap h1 l B;have:=Kl (P:=P) (w:=w) true hl hh h1 l B;simp [Instr.sliceAt,Instr.slice,run_underlying Z,this,jz f]
   split at h
   .rename_i j;split at h
    .rename_i fz sz bb xs Y;split at h
     .rename_i N;obtain⟨N,f⟩:=N;subst N;replace h:=aO h I;obtain⟨_,hb,h⟩:=h;obtain⟨h1,l,B⟩:=zL hb;obtain⟨v,G,F,cap',q1,q2,q3,q4,U⟩:=qR hs Y;simp only [ao] at q;rw [G] at q;simp only [U5] at q;subst q;subst q1;refine⟨_,_,h,z f _ _ _ h1 l (by omega), ?_⟩;simp only [ao];refine⟨F,_,cap',_,G,by omega,q2,rfl, ?_⟩;by_cases e0:(g.getD 0).toNat=0
      .left;refine⟨e0, ?_⟩;rw [e0];split
       .rfl
       .cases F <;> simp [Addr.add]
      .by_cases i:cap'= (g.getD 0).toNat
       .right;left;rw [if_pos i];exact⟨i.symm,Zf,q4⟩
       .right;right;rw [if_neg i];rcases U with U | ⟨af,off',arr,t',q6,_⟩
        .omega
        .subst q6;exact⟨af,off',rfl,by simp [iu]⟩
     .simp at h
    .simp at h
   .rename_i j sz off n;split at h
    .rename_i fz sz' bb xs Y;split at h
     .rename_i N;obtain⟨rfl,rfl,f⟩:=N;replace h:=aO h I;obtain⟨_,hb,h⟩:=h;obtain⟨h1,l,B⟩:=zL hb;simp only [ao] at q;obtain⟨a,L,cap,F,i,e2,e3,rfl,e4⟩:=q;obtain⟨v,G,a'',cap'',q1,q2,q3,q4,U⟩:=qR hs Y;rw [G] at i;simp only [U5] at i;subst i;simp only [WG] at q1;obtain⟨rfl,rfl,rfl⟩:=q1;refine⟨_,_,h,z f _ _ _ h1 l (by omega), ?_⟩;simp only [ao];refine⟨a,_,cap,_,G,by omega,e3,by congr 1;omega, ?_⟩;by_cases e0:(g.getD 0).toNat=0
      .have:(if cap - off= (g.getD 0).toNat then F else F.map (·.add ((g.getD 0).toNat * P.cellsOf e)))=F:=by
        rw [e0];split
        .rfl
        .cases F <;> simp [Addr.add]
       rw [this,e0,X1];exact e4
      .by_cases M:cap - off= (g.getD 0).toNat
       .right;left;rw [if_pos M];refine⟨by omega, ?_, ?_⟩
        .rcases e4 with⟨_,rfl⟩ | ⟨_,C,_⟩ | ⟨b,o,rfl,rfl⟩
         .exact Zf
         .exact C
         .simp
        .trivial
       .right;right;rw [if_neg M];rcases U with U | ⟨af,off',arr,t',q6,_⟩
        .omega
        .subst q6;rcases e4 with⟨e7,rfl⟩ | ⟨e7,_⟩ | ⟨b,o,C,rfl⟩
         .subst e7;exact⟨af,off',rfl,by simp [iu]⟩
         .omega
         .exact⟨b,o,C,by simp [iu,XL,XT]⟩
     .simp at h
    .simp at h
   .rename_i y;split at h
    .rename_i f;replace h:=aO h I;obtain⟨p,hp,h⟩:=h;replace h:=aO h I;obtain⟨_,hb,h⟩:=h;obtain⟨h1,l,B⟩:=zL hb;rcases T.qq hp with rfl | ⟨rfl,hp2⟩
     .simp only [ao,aA] at q;rcases q with⟨i,e,rfl⟩ | ⟨i,af,off,D,cap,rfl,G,H,g3⟩
      .rw [e] at l B h;refine⟨_,_,h,z f _ _ _ (by simpa using h1) (by simpa using l) (by simpa using B), ?_⟩;simp only [VL,Int.natCast_zero] at l B;have M:(g.getD 0).toNat=0:=by omega
       have C:(hi.getD ((0:Nat):Int)).toNat=0:=by
        have:hi.getD ((0:Nat):Int)=hi.getD 0:=by simp
        rw [this];omega
       simp only [ao,aA,sub,Zt,Zu];left;refine⟨i,trivial, ?_⟩;rw [C];simp
      .refine⟨_,_,h,z f _ _ _ h1 l (by omega), ?_⟩;simp only [ao,aA];right;refine⟨i, ?_⟩;by_cases M:cap= (g.getD 0).toNat
       .rw [if_pos M];have C:(hi.getD ((p.2.length:Nat):Int)).toNat - (g.getD 0).toNat=0:=by omega
        refine⟨af,off,D,cap - (g.getD 0).toNat, ?_, ?_, .inl ?_, ?_⟩
        .simp only [sub,C,XI,VL]
        .simp only [sub,C,XI,VL];omega
        .simp [sub,C]
        .simp [sub,C,aY]
       .rw [if_neg M];have J:(sub (g.getD 0) (hi.getD ((p.2.length:Nat):Int)) p.2).length= (hi.getD ((p.2.length:Nat):Int)).toNat - (g.getD 0).toNat:=by
         simp only [sub,V7,Xb];omega
        rcases H with H | ⟨H,g4⟩
        .have e7:(g.getD 0).toNat=0:=by rw [H] at B;simp only [VL] at B;rw [H] at l;simp only [VL] at l;omega
         refine⟨af,off,D,cap - (g.getD 0).toNat, ?_, ?_, .inl (by simp [sub,H]),by simp [sub,H,aY]⟩
         .rw [J,e7];simp [Addr.add]
         .rw [J];omega
        .subst H;refine⟨af,off+ (g.getD 0).toNat * P.cellsOf e,none,cap - (g.getD 0).toNat, ?_, ?_, .inr ⟨rfl,g4⟩, ?_⟩
         .rw [J];simp only [Xg,iu]
         .rw [J];omega
         .exact(g3.drop _).take _
     .rw [hp2] at l B h;simp only [ao,aA] at q;simp only [VL,Int.natCast_zero] at l B;have M:(g.getD 0).toNat=0:=by omega
      have C:(hi.getD ((0:Nat):Int)).toNat=0:=by
       have:hi.getD ((0:Nat):Int)=hi.getD 0:=by simp
       rw [this];omega
      rcases q with⟨i,rfl⟩ | ⟨i,af,off,D,rfl⟩
      .refine⟨_,_,h,z f _ _ _ (by simpa using h1) (by simpa using l) (by simpa using B), ?_⟩;simp only [ao,aA,sub,Zt,Zu];left;refine⟨i,trivial, ?_⟩;rw [C];simp
      .refine⟨_,_,h,z f _ _ _ (by simpa using h1) (by simpa using l) (by simpa using B), ?_⟩;simp only [ao,aA,sub,Zt,Zu,aY];right;refine⟨i,af,off,D,0, ?_,by simp, .inl trivial,trivial⟩;rw [M,C];simp
    .simp at h
   .simp at h
  .rename_i m;obtain⟨km,rfl⟩:=rA hm
   have z:bV P e=true->g.getD 0=0->hi.getD 1=0->m=0->∀(a:Option Addr) (len cap:Nat),
     (Instr.sliceAt t (.slice a len cap) S Q (some (.int km m))).run P w= .ok (.slice a 0 0) w:=by
    intro f h1 l B a len cap;cases hi with
    | none=>simp at l
    | some hn=>
     obtain⟨kh,rfl⟩:=rA hh;simp only [Vx] at l;subst l;subst B;have i:∀k,(Instr.sliceBound (.int km 0) cap k).run P w= .ok 0 w:=λk=>tc km 0 cap k (by omega) (by omega);have e2:∀k,(Instr.sliceBound (.int kh 0) 0 k).run P w= .ok 0 w:=λk=>tc kh 0 0 k (by omega) (by omega);cases g with
     | none=>have:=xg hl;subst this;simp [Instr.sliceAt,Instr.slice,run_underlying Z,Instr.sliceBounds,i,e2,jz f]
     | some ln=>obtain⟨kl,rfl⟩:=rA hl;simp only [Vx] at h1;subst h1;have e3:∀k,(Instr.sliceBound (.int kl 0) 0 k).run P w= .ok 0 w:=λk=>tc kl 0 0 k (by omega) (by omega);simp [Instr.sliceAt,Instr.slice,run_underlying Z,Instr.sliceBounds,i,e2,e3,jz f]
   have zs:∀{a b d:Int} {u:Unit},A3 a b d=some u->a=0/\b=0/\d=0:=by
    intro a b d u hz;unfold A3 at hz;split at hz
    .assumption
    .simp at hz
   split at h
   .rename_i y;split at h
    .rename_i f;replace h:=aO h I;obtain⟨p,hp,h⟩:=h;replace h:=aO h I;obtain⟨_,hz,h⟩:=h;obtain⟨V,W,X⟩:=zs hz;rcases T.qq hp with rfl | ⟨rfl,hp2⟩
     .simp only [ao,aA] at q;rcases q with⟨i,e,rfl⟩ | ⟨i,af,off,D,cap,rfl,G,H,g3⟩
      .exact⟨_,_,h,z f V W X _ _ _,by simp only [ao,aA];exact .inl ⟨i,trivial⟩⟩
      .exact⟨_,_,h,z f V W X _ _ _,by simp only [ao,aA];exact .inr ⟨i,af,off,D,rfl⟩⟩
     .simp only [ao,aA] at q;rcases q with⟨i,rfl⟩ | ⟨i,af,off,D,rfl⟩
      .exact⟨_,_,h,z f V W X _ _ _,by simp only [ao,aA];exact .inl ⟨i,trivial⟩⟩
      .exact⟨_,_,h,z f V W X _ _ _,by simp only [ao,aA];exact .inr ⟨i,af,off,D,rfl⟩⟩
    .simp at h
   .rename_i j;split at h
    .rename_i fz sz bb xs Y;split at h
     .simp at h
     .rename_i f;simp only [Bool.not_eq_false] at f;replace h:=aO h I;obtain⟨_,hz,h⟩:=h;obtain⟨V,W,X⟩:=zs hz;obtain⟨v,G,F,cap',q1,q2,q3,q4,U⟩:=qR hs Y;simp only [ao] at q;rw [G] at q;simp only [U5] at q;subst q;subst q1;refine⟨_,_,h,z f V W X _ _ _, ?_⟩;simp only [ao,aA];cases bb
      .right;cases F with
       | none=>simp at q3
       | some x=>obtain⟨b,o,D⟩:=x;exact⟨rfl,b,o,D,rfl⟩
      .left;exact⟨rfl,by rw [q3.2 rfl]⟩
    .simp at h
   .simp at h
 .simp at h
end
open Go
section
variable {P:Program} {w w':World} {A A':Nat->Prop} {c:Ctx} {ρ:Id->Option Value} {O:Id->Option Nat} {s:St} {cc:Option Bool} {h:Id->Option ab}
def sV(v:AV)(i:Id):Prop:=v= .own i\/(∃sz off n,v= .part i sz off n)\/∃off,v= .ref i off
theorem oa{i:Id}{a b:Bool}{sz:Nat}{l:List (List T)}(hs:HS c w h ρ O)(hi:h i=some (.sl a sz b l)):∃v,ρ i=some v/\cU w (AA c w O) sz b l v (λaf=>if a=true then AA c w O af else O i=some af):=by obtain⟨v,h1,d,_⟩:=hs.af i _ hi;exact⟨v,h1,d⟩
theorem m7{v:AV}{x:T}{u:Value}(hs:HS c w h ρ O)(hv:ao w (AA c w O) ρ v u)(d:dP h v=some x)
  (k:∀b,AA c w O b->A' b) (M:∀i af,sV v i->O i=some af->A' af):aA w A' x u:=by
 have mono:∀(t:T) (v:Value),aA w (AA c w O) t v->aA w A' t v:=λt v hr=>aA.mono (λb hb=>⟨k b hb,rfl⟩) t v hr;cases v <;> simp only [dP,reduceCtorEq,U5] at d
 case t y=>subst d;simp only [ao] at hv;exact mono _ _ hv
 case own i=>
  split at d
  .rename_i H sz b xs hi;simp only [U5] at d;subst d;obtain⟨v',I,a,cap,q1,R,z,q4,e⟩:=oa hs hi;simp only [ao] at hv;rw [I] at hv;simp only [U5] at hv;subst hv;subst q1;simp only [aA];cases b with
   | true=>
    left;have:a=none:=z.2 rfl;subst this;rcases e with e | ⟨af,off,arr,t,m,_⟩
    .have:xs= []:=Vq.1 (by omega);subst this;subst e;exact⟨rfl,rfl,rfl⟩
    .cases m
   | false=>
    right;refine⟨rfl, ?_⟩;rcases e with e | ⟨af,off,arr,t,m,B,q8,q9,q⟩
    .have:xs= []:=Vq.1 (by omega);subst this;cases a with
     | none=>simp at z
     | some y=>obtain⟨F,o,S⟩:=y;exact⟨F,o,S,cap,rfl,R, .inl rfl,by simp [aY]⟩
    .subst m;refine⟨af,off,_,cap,rfl,R, .inr ⟨rfl, ?_⟩,aY.nP (λb hb=>⟨k b hb,rfl⟩) af sz rfl off xs q⟩;cases H
     .exact M i af (.inl rfl) (by simpa using B)
     .exact k _ (by simpa using B)
  .simp at d
 case part i sz off n=>
  split at d
  .rename_i H D b xs hi;split at d
   .rename_i X;subst X;simp only [U5] at d;subst d;obtain⟨v',I,a,cap,q1,R,z,q4,e⟩:=oa hs hi;simp only [ao] at hv;obtain⟨U,L,Y,E,f,e2,e3,rfl,W⟩:=hv;rw [I] at f;simp only [U5] at f;subst f;simp only [WG] at q1;obtain⟨rfl,rfl,rfl⟩:=q1;have Q:((xs.drop off).take n).length=n:=by simp only [V7,Xb];omega
    simp only [aA,Q];have g:E=none↔U=none:=by
     rcases W with⟨_,rfl⟩ | ⟨_,p,_⟩ | ⟨V,o,rfl,rfl⟩
     .exact Zf
     .exact p
     .simp
    cases b with
    | true=>
     left;have p:U=none:=z.2 rfl;subst p;rcases e with e | ⟨af,off',arr,t,m,_⟩
     .have G:xs= []:=Vq.1 (by omega);subst G;subst e;simp only [VL] at e2;have e7:n=0:=by omega
      subst e7;rw [g.2 rfl];exact⟨rfl,by simp,by congr 1;omega⟩
     .cases m
    | false=>
     right;refine⟨rfl, ?_⟩;by_cases hn:n=0
     .subst hn;cases E with
      | none=>have:=g.1 rfl;simp [this] at z
      | some y=>obtain⟨F,o,S⟩:=y;exact⟨F,o,S,_,rfl,by omega, .inl (by simp),by simp [aY]⟩
     .rcases e with e | ⟨af,off',arr,t,m,B,q8,q9,q⟩
      .omega
      .subst m;have Z:E=some ⟨af,off'+off * D,none⟩:=by
        rcases W with⟨rfl,rfl⟩ | ⟨rfl,_⟩ | ⟨V,o,p,G⟩
        .simp
        .omega
        .simp only [U5,Wq] at p;obtain⟨rfl,rfl,_⟩:=p;exact G
       subst Z;refine⟨af,_,_,_,rfl,by omega, .inr ⟨rfl, ?_⟩,(aY.nP (λb hb=>⟨k b hb,rfl⟩) af D rfl off' xs q).drop off |>.take n⟩;cases H
       .exact M i af (.inr (.inl ⟨_,_,_,rfl⟩)) (by simpa using B)
       .exact k _ (by simpa using B)
   .simp at d
  .simp at d
 case ref i off=>
  simp only [ao] at hv;obtain⟨V,f,rfl⟩:=hv;split at d
  .rename_i cs hi;obtain⟨l,hl,d⟩:=U6.1 d;simp only [U5] at d;subst d;obtain⟨b,arr,t',h1,C,J,K,h5,h6⟩:=BS (s:=⟨λ_=>(none, .top),h⟩) hs hi;rw [h1] at f;simp only [U5,Xe,Wq] at f;obtain⟨rfl,_⟩:=f;simp only [aA];refine⟨b,off,rfl, .inr (M i b (.inr (.inr ⟨_,rfl⟩)) C), ?_⟩;have hT:=aT.mh hl K;have key:∀(l:List T) (vs:List Value) (off:Nat),aT w (AA c w O) l vs->(∀j v,vs[j]? =some v->w.cell? ⟨b,off+j,none⟩=some v)->aV w A' b off l:=by
    intro l;induction l with
    | nil=>intro vs off _ _;simp [aV]
    | cons x l ih=>rintro vs off ⟨v,r,rfl,h1,C⟩ hv;simp only [aV];refine⟨⟨v,by simpa using hv 0 v rfl,mono _ _ h1⟩,ih r (off+1) C λj u N=> ?_⟩;have:=hv (j+1) u (by simpa using N);rw [show off+1+j=off+ (j+1) by omega];exact this
   have:=(key l _ 0 hT λj v N=>by rw [VM];exact h6 j v N).drop off;rwa [VM] at this
  .rename_i l hi;simp only [U5] at d;subst d;obtain⟨b,h1,C,J,K⟩:=hs.af i _ hi;rw [h1] at f;simp only [U5,Xe,Wq] at f;obtain⟨rfl,_⟩:=f;simp only [aA];refine⟨b,off,rfl, .inr (k b J), ?_⟩;have:=(aV.mono (λb hb=>⟨k b hb,rfl⟩) b J 0 l K).drop off;rwa [VM] at this
  .simp at d
def Kb(v:AV)(i:Id):Prop:=sV v i\/∃vs,v= .agg vs/\∃u∈vs,sV u i
theorem K3(hs:HS c w h ρ O)(e:∀b,AA c w O b->A' b):∀{vs:List AV} {xs:List T} {us:List Value},aC w (AA c w O) ρ vs us->lH h vs=some xs->
  (∀i af,(∃u∈vs,sV u i)->O i=some af->A' af)->aT w A' xs us
 | [],xs,us,hv,a,_=>by simp only [lH,U5] at a;subst a;simpa [aC,aT] using hv
 | v::vs,xs,us,hv,a,f=>by
  simp only [lH] at a;cases h1:dP h v with
  | none=>simp [h1] at a
  | some x=>
   cases d:lH h vs with
   | none=>simp [h1,d] at a
   | some l=>simp only [h1,d,Vf,U5] at a;subst a;simp only [aC] at hv;obtain⟨u,r,rfl,g,j⟩:=hv;exact⟨u,r,rfl,m7 hs g h1 e (λi af hi=>f i af ⟨v,U9,hi⟩),K3 hs e j d (λi af ⟨u,k,hi⟩=>f i af ⟨u,Va _ k,hi⟩)⟩
theorem Tu{v:AV}{x:T}{u:Value}(hs:HS c w h ρ O)(hv:ao w (AA c w O) ρ v u)(a:dP h v=some x):u.oneCell'=true/\u.cells= #[u]:=
 (m7 (A':=λ_=>True) hs hv a (λ_ _=>trivial) (λ_ _ _ _=>trivial)).qE
theorem Tv{v:AV}{xs:List T}{u:Value}(hs:HS c w h ρ O)(hv:ao w (AA c w O) ρ v u)(a:lG h v=some xs)(f:∀b,AA c w O b->A' b)
  (g:∀i af,Kb v i->O i=some af->A' af):aT w A' xs u.cells.toList/\∀y∈u.cells.toList,y.oneCell'=true/\y.cells= #[y]:=by
 have one:∀x,dP h v=some x->xs= [x]->aT w A' xs u.cells.toList/\∀y∈u.cells.toList,y.oneCell'=true/\y.cells= #[y]:=by intro x d e;subst e;have l:=m7 hs hv d f (λi af hi=>g i af (.inl hi));have h1:=Tu hs hv d;rw [h1.2];exact⟨⟨u,[],rfl,l,rfl⟩,by intro y hy;simp at hy;subst hy;exact h1⟩
 cases v
 case agg vs=>simp only [lG] at a;simp only [ao] at hv;obtain⟨m,rfl,j,k⟩:=hv;refine⟨?_,by simpa [Value.cells] using k⟩;have:=K3 hs f j a (λi af hi=>g i af (.inr ⟨vs,rfl,hi⟩));simpa [Value.cells] using this
 all_goals
  unfold lG at a;obtain⟨x,d,e⟩:=U6.1 a;exact one x d (V5 e).symm
def rk(p:Id×ab)(x:Option ab):Prop:=(∃sz b xs,p.2= .sl true sz b xs/\(x=some (.sl false sz b xs)\/x=some (.sl true sz b xs)))\/
 ∃l,p.2= .iZ l/\((∃cs,x=some (.box cs)/\fp cs=some l)\/x=some (.iZ l))
def iE(h:Id->Option ab)(us:aH):Prop:= ∀p∈us,rk p (h p.1)
theorem rk.again{i:Id}{b k:ab}{x:Option ab}(h1:rk (i,b) x)(o:rk (i,k) x):k=b/\rk (i,k) (some b):=by
 rcases h1 with⟨sz,bb,xs,e,d⟩ | ⟨l,e,d⟩
 .rcases o with⟨g,f,j,e2,a⟩ | ⟨p,e2,a⟩
  .simp only at e e2;have:g=sz/\f=bb/\j=xs:=by
    rcases d with rfl | rfl <;> rcases a with a | a <;> simp at a <;> simp [a]
   obtain⟨rfl,rfl,rfl⟩:=this;exact⟨by rw [e,e2], .inl ⟨_,_,_,e2, .inr (by rw [e])⟩⟩
  .rcases d with rfl | rfl <;> rcases a with⟨cs,a,_⟩ | a <;> simp at a
 .rcases o with⟨g,f,j,e2,a⟩ | ⟨p,e2,a⟩
  .rcases a with rfl | rfl <;> rcases d with⟨cs,d,_⟩ | d <;> simp at d
  .simp only at e e2;have:p=l:=by
    rcases d with⟨cs,rfl,d⟩ | rfl
    .rcases a with⟨n,a,m⟩ | a
     .simp only [U5,ab.box.injEq] at a;subst a;rw [d] at m;simpa using m.symm
     .simp at a
    .rcases a with⟨n,a,m⟩ | a
     .simp at a
     .simpa using a.symm
   subst this;exact⟨by rw [e,e2], .inr ⟨_,e2, .inr (by rw [e])⟩⟩
theorem HS.shut(hs:HS c w h ρ O){i:Id}{b:ab}(g:rk (i,b) (h i)):
  ∃a,Le w ρ O w ρ a/\HS c w (aE h i (some b)) ρ a/\(∀j,a j=O j\/a j=none)/\a i=none/\∀j,j≠i->a j=O j:=by
 have self:∀(f:Id->Option ab) (v:Option ab),f i=v->aE f i v=f:=by
  intro f v h;funext j;unfold aE;split
  .rename_i e;rw [e,h]
  .rfl
 have rel:∀{x:Option ab},HS c w (aE h i x) ρ (aE O i none)->∃a,Le w ρ O w ρ a/\HS c w (aE h i x) ρ a/\(∀j,a j=O j\/a j=none)/\a i=none/\∀j,j≠i->a j=O j:=by
  intro x n;exact⟨_,Le.release,n,λj=>by
   by_cases e:j=i
   .subst e;right;simp
   .left;exact au _ _ e,by simp,λj e=>au _ _ e⟩
 have same:h i=some b->O i=none->∃a,Le w ρ O w ρ a/\HS c w (aE h i (some b)) ρ a/\(∀j,a j=O j\/a j=none)/\a i=none/\∀j,j≠i->a j=O j:=by intro h1 k;exact⟨O,Le.refl,by rw [self _ _ h1];exact hs,λj=> .inl rfl,k,λ_ _=>rfl⟩
 rcases g with⟨sz,bb,xs,e,hi⟩ | ⟨l,e,hi⟩
 .simp only at e;subst e;rcases hi with hi | hi
  .exact rel (hs.freeze hi)
  .obtain⟨_,_,_,d⟩:=hs.af i _ hi;exact same hi (d rfl)
 .simp only at e;subst e;rcases hi with⟨cs,hi,m⟩ | hi
  .exact rel (hs.PW hi m)
  .obtain⟨_,_,d,_⟩:=hs.af i _ hi;exact same hi d
theorem u5(v:AV):iE h (iy h v):=by
 intro p a;unfold iy at a;split at a
 .split at a
  .rename_i i sz b xs hi;simp only [Vj] at a;subst a;exact .inl ⟨sz,b,xs,rfl, .inl hi⟩
  .cases a
 .split at a
  .rename_i i _ _ _ sz b xs hi;simp only [Vj] at a;subst a;exact .inl ⟨sz,b,xs,rfl, .inl hi⟩
  .cases a
 .split at a
  .rename_i i _ cs hi;split at a
   .rename_i l d;simp only [Vj] at a;subst a;exact .inr ⟨l,rfl, .inl ⟨cs,hi,d⟩⟩
   .cases a
  .cases a
 .cases a
theorem iE.append{us vs:aH}(h1:iE h us)(b:iE h vs):iE h (us++vs):=by
 intro p a;rcases Vr.1 a with a | a
 .exact h1 p a
 .exact b p a
theorem Ib:∀(vs:List AV),iE h (nI h vs)
 | []=>by intro p a;cases a
 | v::vs=>(u5 v).append (Ib vs)
theorem CX(v:AV):iE h (hJ h v):=by
 unfold hJ;split
 .exact Ib _
 .exact u5 v
theorem AT{a:Type}(f:Id->Option a)(i:Id)(v:Option a)(h:f i=v):aE f i v=f:=by
 funext j;unfold aE;split
 .rename_i e;rw [e,h]
 .rfl
theorem HS.H5:∀{us:aH} {h:Id->Option ab} {O:Id->Option Nat},HS c w h ρ O->iE h us->
  ∃O',Le w ρ O w ρ O'/\HS c w (aK h us) ρ O'/\(∀i,O' i=O i\/O' i=none)/\(∀p∈us,O' p.1=none)/\∀i,(∀p∈us,p.1≠i)->O' i=O i
 | [],h,O,hs,_=>⟨O,Le.refl,hs,λi=> .inl rfl,by simp,λ_ _=>rfl⟩
 | (i,b)::us,h,O,hs,d=>by
  have hi:=d (i,b) U9;obtain⟨z,n,o,q,r,t⟩:=hs.shut hi;have g:iE (aE h i (some b)) us:=by
   intro p a;have f:=d p (Va _ a);by_cases e:p.1=i
   .obtain⟨j,x⟩:=p;simp only at e f;subst e;rw [aF];exact(hi.again f).2
   .rw [au _ _ e];exact f
  obtain⟨m,u,k2,l,v,y⟩:=HS.H5 o g;refine⟨m,n.trans u,k2,λj=> ?_,λp a=> ?_,λj k=> ?_⟩
  .rcases l j with e | e
   .rw [e];exact q j
   .exact .inr e
  .rcases Vk.1 a with rfl | a
   .rcases l i with e | e
    .rw [e];exact r
    .exact e
   .exact v p a
  .rw [y j (λp a=>k p (Va _ a)),t j (λe=>k (i,b) U9 e.symm)]
theorem zA(hs:HS c w h ρ O){v:AV}{x:T}(a:dP h v=some x){i:Id}{af:Nat}(hi:sV v i)(d:O i=some af):∃p∈iy h v,p.1=i:=by
 rcases hi with rfl | ⟨sz,off,n,rfl⟩ | ⟨off,rfl⟩
 .simp only [dP] at a;split at a
  .rename_i f sz b xs hi;cases f
   .exact⟨(i, .sl true sz b xs),by simp [iy,hi],rfl⟩
   .obtain⟨_,_,_,e⟩:=hs.af i _ hi;rw [e rfl] at d;cases d
  .simp at a
 .simp only [dP] at a;split at a
  .rename_i f g b xs hi;cases f
   .exact⟨(i, .sl true g b xs),by simp [iy,hi],rfl⟩
   .obtain⟨_,_,_,e⟩:=hs.af i _ hi;rw [e rfl] at d;cases d
  .simp at a
 .simp only [dP] at a;split at a
  .rename_i cs hi;obtain⟨l,j,_⟩:=U6.1 a;exact⟨(i, .iZ l),by simp [iy,hi,j],rfl⟩
  .rename_i l hi;obtain⟨_,_,e,_⟩:=hs.af i _ hi;rw [e] at d;cases d
  .simp at a
theorem H9(hs:HS c w h ρ O):∀{vs:List AV} {xs:List T},lH h vs=some xs->∀{i:Id} {af:Nat},(∃u∈vs,sV u i)->O i=some af->∃p∈nI h vs,p.1=i
 | [],_,_,i,af,⟨u,hu,_⟩,_=>by cases hu
 | v::vs,xs,a,i,af,⟨u,hu,hi⟩,f=>by
  simp only [lH] at a;cases h1:dP h v with
  | none=>simp [h1] at a
  | some x=>
   cases d:lH h vs with
   | none=>simp [h1,d] at a
   | some l=>
    rcases Vk.1 hu with rfl | hu
    .obtain⟨p,b,e⟩:=zA hs h1 hi f;exact⟨p,Vo _ b,e⟩
    .obtain⟨p,b,e⟩:=H9 hs d ⟨u,hu,hi⟩ f;exact⟨p,Vm _ b,e⟩
theorem PY(hs:HS c w h ρ O){v:AV}{xs:List T}(a:lG h v=some xs){i:Id}{af:Nat}(hi:Kb v i)(d:O i=some af):∃p∈hJ h v,p.1=i:=by
 rcases hi with hi | ⟨vs,rfl,hi⟩
 .have:∃x,dP h v=some x:=by
   rcases hi with rfl | ⟨_,_,_,rfl⟩ | ⟨_,rfl⟩ <;> exact(U6.1 a).elim λx b=>⟨x,b.1⟩
  obtain⟨x,b⟩:=this;obtain⟨p,f,e⟩:=zA hs b hi d;refine⟨p, ?_,e⟩;rcases hi with rfl | ⟨_,_,_,rfl⟩ | ⟨_,rfl⟩ <;> exact f
 .exact H9 hs a hi d
theorem Ex{v:AV}{xs:List T}{u:Value}{O':Id->Option Nat}(hs:HS c w h ρ O)(hv:ao w (AA c w O) ρ v u)(g:lG h v=some xs)(le:Le w ρ O w ρ O')(k:∀i,O' i=O i\/O' i=none)
  (l:∀p∈hJ h v,O' p.1=none):aT w (AA c w O') xs u.cells.toList/\∀y∈u.cells.toList,y.oneCell'=true/\y.cells= #[y]:=by
 refine Tv hs hv g (λb hb=>(le.A b hb).1) (λi af hi f=> ?_);obtain⟨p,m,e⟩:=PY hs g hi f;refine⟨.inr (hs.own i af f),hs.lt i af f,λj a=> ?_⟩;rcases k j with d | d
 .rw [d] at a;have:=hs.inj j i af a f;subst this;have:=l p m;rw [e,d,a] at this;cases this
 .rw [d] at a;cases a
theorem kI(hs:HS c w h ρ O){i:Id}{u:Value}(d:ρ i=some u):u.oneCell'=true/\u.cells= #[u]:=by
 cases hi:h i with
 | none=>
  cases f:i.real with
  | true=>rw [(hs.cG i f hi).1] at d;cases d
  | false=>
   cases i with
   | g i n=>exact hs.gone i n u d
   | _=>cases f
 | some b=>
  have:=hs.af i b hi;cases b with
  | box cs=>obtain⟨b,_,_,h1,_⟩:=this;rw [d] at h1;simp only [U5] at h1;subst h1;exact⟨rfl,rfl⟩
  | sl j sz b xs=>obtain⟨v,h1,⟨a,cap,e,_⟩,_⟩:=this;rw [d] at h1;simp only [U5] at h1;subst h1;subst e;exact⟨rfl,rfl⟩
  | iZ l=>obtain⟨b,h1,_⟩:=this;rw [d] at h1;simp only [U5] at h1;subst h1;exact⟨rfl,rfl⟩
  | mp ag ks vk es=>obtain⟨b,_,_,h1,_⟩:=this;rw [d] at h1;simp only [U5] at h1;subst h1;exact⟨rfl,rfl⟩
  | arr cs=>obtain⟨b,_,_,h1,_⟩:=this;rw [d] at h1;simp only [U5] at h1;subst h1;exact⟨rfl,rfl⟩
  | rows b sz aD rsz nx es=>obtain⟨a,cap,h1,_⟩:=this;rw [d] at h1;simp only [U5] at h1;subst h1;exact⟨rfl,rfl⟩
  | dead=>obtain⟨⟨v,h1,e⟩,_⟩:=this;rw [d] at h1;simp only [U5] at h1;subst h1;exact e
theorem Si(hs:HS c w h ρ O){v:AV}{u:Value}(hv:ao w A ρ v u)(a:pW v=true):u.oneCell'=true/\u.cells= #[u]:=by
 cases v <;> simp only [pW,VD] at a <;> simp only [ao] at hv
 case t=>exact hv.qE
 case ref=>obtain⟨b,_,rfl⟩:=hv;exact⟨rfl,rfl⟩
 case el=>obtain⟨_,_,_,_,_,rfl⟩:=hv;exact⟨rfl,rfl⟩
 case own=>exact kI hs hv
 case part=>obtain⟨_,_,_,_,_,_,_,rfl,_⟩:=hv;exact⟨rfl,rfl⟩
 case row=>exact hs.gone _ _ _ hv
 case rel=>obtain⟨_,_,_,_,_,rfl⟩:=hv;exact⟨rfl,rfl⟩
 case fn=>obtain⟨_,_,rfl,_⟩:=hv;exact⟨rfl,rfl⟩
theorem yF(hs:HS c w h ρ O){v:AV}{u:Value}(hv:ao w A ρ v u)(a:(iw v).all pW=true):aC w A ρ (iw v) u.cells.toList/\∀y∈u.cells.toList,y.oneCell'=true/\y.cells= #[y]:=by
 have one:iw v= [v]->aC w A ρ (iw v) u.cells.toList/\∀y∈u.cells.toList,y.oneCell'=true/\y.cells= #[y]:=by intro e;rw [e] at a⊢;simp only [WK,YW,XU] at a;have h1:=Si hs hv a;rw [h1.2];refine⟨by simp only [aC];exact⟨u,[],rfl,hv,rfl⟩, ?_⟩;intro y hy;simp at hy;subst hy;exact h1
 cases v
 case agg vs=>simp only [ao] at hv;obtain⟨d,rfl,h1,b⟩:=hv;exact⟨by simpa [iw,Value.cells] using h1,by simpa [Value.cells] using b⟩
 all_goals exact one rfl
end
open Go
section
variable {P:Program} {w w':World} {A A':Nat->Prop} {c:Ctx} {ρ:Id->Option Value} {O:Id->Option Nat} {s:St} {cc:Option Bool} {h:Id->Option ab}
theorem uC{b:Nat}{arr:Array Value}{t:TypeId}{a:Nat×Nat}(hb:w.heap[b]? =some (.cells arr t a))(cs:Array Value)(p:Nat):(w.setRow b cs).cell? ⟨b,p,none⟩=cs[p]?:=by simp only [World.cell?,setRow_heap w b arr cs t a hb];rfl
theorem kT{b:Nat}{arr:Array Value}{t:TypeId}{a:Nat×Nat}(hb:w.heap[b]? =some (.cells arr t a))(p:Nat):w.cell? ⟨b,p,none⟩=arr[p]?:=by simp only [World.cell?,hb];rfl
theorem qP(w:World)(b:Nat)(cs:Array Value):(w.setRow b cs).heap.size=w.heap.size:=by simp [World.setRow]
theorem sX{d:Type}(off:Nat)(new a:List d)(e:off+new.length<=a.length)(p:Nat):(cg off new a)[p]? =if off<=p/\p < off+new.length then new[p - off]? else a[p]?:=by
 unfold cg;rw [VI];have h1:(a.take off).length=off:=by rw [V7];omega
 by_cases h:p < off
 .rw [WH (by omega),if_neg (by omega),XN,if_pos h]
 .rw [Wo (by omega),h1];by_cases b:p < off+new.length
  .rw [WH (by omega),if_pos ⟨by omega,b⟩]
  .rw [Wo (by omega),if_neg (by omega),XP];congr 1;omega
theorem qK{b:Type}(off:Nat)(new a:List b)(d:off+new.length<=a.length):(cg off new a).length=a.length:=by simp only [cg,Wr,V7,Xb];omega
theorem aV.lA{af:Nat}:∀{l:List T} {vs:List Value} {off:Nat},aT w A l vs->(∀j v,vs[j]? =some v->w.cell? ⟨af,off+j,none⟩=some v)->aV w A af off l
 | [],_,_,_,_=>by simp [aV]
 | x::l,vs,off,⟨v,r,e,h1,a⟩,hv=>by subst e;simp only [aV];refine⟨⟨v,by simpa using hv 0 v rfl,h1⟩,aV.lA a λj u b=> ?_⟩;have:=hv (j+1) u (by simpa using b);rw [show off+1+j=off+ (j+1) by omega];exact this
theorem aV.cells{af:Nat}(a:∀b,A b->A' b/\w'.heap[b]? =w.heap[b]?):∀{cs:List T} {off:Nat},(∀j,j < cs.length->w'.cell? ⟨af,off+j,none⟩=w.cell? ⟨af,off+j,none⟩)->aV w A af off cs->aV w' A' af off cs
 | [],_,_,_=>by simp [aV]
 | x::cs,off,d,e=>by
  simp only [aV] at e⊢;obtain⟨⟨v,h1,f⟩,g⟩:=e;refine⟨⟨v, ?_,aA.mono a x v f⟩,aV.cells a (λj i=> ?_) g⟩
  .have:=d 0 (by simp);simp only [X1] at this;rw [this];exact h1
  .have:=d (j+1) (by simp;omega);rw [show off+1+j=off+ (j+1) by omega];exact this
theorem aV.append{af:Nat}:∀{a b:List T} {off:Nat},aV w A af off a->aV w A af (off+a.length) b->aV w A af off (a++b)
 | [],b,off,_,h=>by simpa using h
 | x::a,b,off,h,d=>by
  simp only [aV,Vc] at h⊢;refine⟨h.1,aV.append h.2 ?_⟩;have:off+1+a.length=off+ (x::a).length:=by simp;omega
  rw [this];exact d
theorem aV.take{af:Nat}:∀{cs:List T} {off:Nat},aV w A af off cs->∀n,aV w A af off (cs.take n)
 | _,_,_,0=>by simp [aV]
 | [],_,_,n+1=>by simp [aV]
 | x::cs,off,h,n+1=>by simp only [aV,Yy] at h⊢;exact⟨h.1,aV.take h.2 n⟩
theorem aY.cells{af sz:Nat}(d:∀b,A b->A' b/\w'.heap[b]? =w.heap[b]?):∀{xs:List (List T)} {off:Nat},(∀p,off<=p->p < off+xs.length * sz->w'.cell? ⟨af,p,none⟩=w.cell? ⟨af,p,none⟩)->aY w A af sz off xs->aY w' A' af sz off xs
 | [],_,_,_=>by simp [aY]
 | cs::xs,off,f,a=>by
  simp only [aY] at a⊢;have e:(cs::xs).length * sz=sz+xs.length * sz:=by simp [Wn];omega
  refine⟨a.1,aV.cells d (λj i=>f _ (by omega) (by rw [e];omega)) a.2.1,aY.cells d (λp h1 g=>f p (by omega) (by rw [e];omega)) a.2.2⟩
theorem aY.set{af sz:Nat}(g:∀b,A b->A' b/\w'.heap[b]? =w.heap[b]?):∀{xs:List (List T)} {off k:Nat} {new:List T},aY w A af sz off xs->k < xs.length->new.length=sz->aV w' A' af (off+k * sz) new->
  (∀p,off<=p->p < off+xs.length * sz->¬(off+k * sz<=p/\p < off+k * sz+sz)->w'.cell? ⟨af,p,none⟩=w.cell? ⟨af,p,none⟩)->aY w' A' af sz off (xs.set k new)
 | [],_,_,_,_,i,_,_,_=>by simp at i
 | cs::xs,off,0,new,d,_,l,a,f=>by
  simp only [aY,Zk] at d⊢;have e:(cs::xs).length * sz=sz+xs.length * sz:=by simp [Wn];omega
  exact⟨l,by simpa using a,aY.cells g (λp h1 m=>f p (by omega) (by rw [e];omega) (by omega)) d.2.2⟩
 | cs::xs,off,k+1,new,d,i,l,a,f=>by
  simp only [aY,X9] at d⊢;have e:(cs::xs).length * sz=sz+xs.length * sz:=by simp [Wn];omega
  have e2:(k+1) * sz=sz+k * sz:=by rw [Wn];omega
  refine⟨d.1,aV.cells g (λj o=>f _ (by omega) (by rw [e];omega) (by rw [e2];omega)) d.2.1,aY.set g d.2.2 (by simpa using i) l ?_ (λp h1 m n=>f p (by omega) (by rw [e];omega) (by rw [e2];omega))⟩;rw [show off+sz+k * sz=off+ (k+1) * sz by rw [e2];omega];exact a
theorem aC.cg{as l:List AV}{vs us:List Value}(h:aC w A ρ as vs)(a:aC w A ρ l us)(off:Nat):aC w A ρ (cg off l as) (cg off us vs):=by unfold Aev.cg;have:=a.length;rw [this];exact((h.take off).append a).append (h.drop _)
theorem aV.cg{af base off:Nat}{cs l:List T}(h1:aV w A af base (cs.take off))(a:aV w A af (base+off) l)(b:aV w A af (base+off+l.length) (cs.drop (off+l.length)))(d:off<=cs.length):aV w A af base (cg off l cs):=by
 unfold Aev.cg;rw [VI];have lt:(cs.take off).length=off:=by rw [V7];omega
 exact aV.append h1 (aV.append (by rw [lt];exact a) (by rw [lt];exact b))
theorem Ax{t:TypeId}(e:bV P t=true){b off:Nat}{arr:Array Value}{tt:TypeId}{v:Value}(hb:w.heap[b]? =some (.cells arr tt (0,0)))(d:v.cells.size=P.cellsOf t)(a:off+v.cells.toList.length<=arr.size)
  (h1:∀u∈v.cells.toList,u.oneCell'=true):(storeVar t ⟨b,off,none⟩ v).run P w= .ok () (w.setRow b (cg off v.cells.toList arr.toList).toArray):=by
 unfold storeVar;simp only [Vy,jz e,Vi,d,ne_eq,not_true_eq_false,if_false];have:=run_storeCells_at P b off tt v.cells.toList 0 arr w hb (by simpa using a) h1;simp only [X1] at this;rw [this];rfl
theorem H7{v:AV}{p:Id×ab}(a:p∈iy h v):p.1∈v.ids:=by
 unfold iy at a;split at a
 .split at a
  .simp only [Vj] at a;subst a;simp [AV.ids]
  .cases a
 .split at a
  .simp only [Vj] at a;subst a;simp [AV.ids]
  .cases a
 .split at a
  .split at a
   .simp only [Vj] at a;subst a;simp [AV.ids]
   .cases a
  .cases a
 .cases a
theorem Ia:∀{vs:List AV} {p:Id×ab},p∈nI h vs->p.1∈b9 vs
 | [],p,a=>by cases a
 | v::vs,p,a=>by
  simp only [nI,Vr] at a;simp only [b9,Vr];rcases a with a | a
  .exact .inl (H7 a)
  .exact .inr (Ia a)
theorem Ie{v:AV}{p:Id×ab}(a:p∈hJ h v):p.1∈v.ids:=by
 unfold hJ at a;split at a
 .simp only [AV.ids];exact Ia a
 .exact H7 a
theorem eF:∀{us:aH} {h:Id->Option ab} {i:Id},(∀p∈us,p.1≠i)->aK h us i=h i
 | [],_,_,_=>rfl
 | (j,b)::us,h,i,a=>by rw [dA,eF (λp d=>a p (Va _ d)),au _ _ (λe=>a (j,b) U9 e.symm)]
theorem wL:∀{us:aH} {h:Id->Option ab} {i:Id} {b:ab},(∀p∈us,p.1≠i)->aK (aE h i (some b)) us=aE (aK h us) i (some b)
 | [],_,_,_,_=>rfl
 | (j,x)::us,h,i,b,d=>by
  rw [dA,dA,<-wL (λp f=>d p (Va _ f))];congr 1;funext k;have:j≠i:=λe=>d (j,x) U9 e;by_cases a:k=j
  .subst a;rw [aF,au _ _ this,aF]
  .by_cases e2:k=i
   .subst e2;rw [au _ _ a,aF,aF]
   .rw [au _ _ a,au _ _ e2,au _ _ e2,au _ _ a]
theorem HS.sC{us:aH}(hs:HS c w h ρ O)(a:iE h us):
  ∃O',Le w ρ O w ρ O'/\HS c w (aK h us) ρ O'/\(∀i,O' i=O i\/O' i=none)/\(∀p∈us,O' p.1=none)/\∀i,(∀p∈us,p.1≠i)->O' i=O i:=HS.H5 hs a
theorem AD{b:Nat}{i:Id}(hi:O i=some b)(cs:Array Value):Le w ρ O (w.setRow b cs) ρ O:=
 Le.write hi rfl rfl rfl (qP w b cs) λk a=>setRow_other w b k cs a
theorem cU.put{t:TypeId}{sz k off b o L cap:Nat}{bb:Bool}{xs J:List (List T)}{l:List T}{d:Value}{Q:Nat->Prop}(R:cU w A sz bb xs (.slice (some ⟨b,o,none⟩) L cap) Q)(hy:bp k off l xs=some J)(S:bV P t=true)
  (K:l.length=P.cellsOf t) (B:aT w A l d.cells.toList) (M:∀u∈d.cells.toList,u.oneCell'=true/\u.cells= #[u]):
  ∃cs,Q b/\(storeVar t ⟨b,o+k * sz+off,none⟩ d).run P w= .ok () (w.setRow b cs)/\
   ∀A' z,(∀m,A m->A' m/\(w.setRow b cs).heap[m]? =w.heap[m]?)->z b->cU (w.setRow b cs) A' sz bb J (.slice (some ⟨b,o,none⟩) L cap) z:=by
 obtain⟨a',cap',q1,V,W,X,F⟩:=R;simp only [WG] at q1;obtain⟨rfl,rfl,rfl⟩:=q1;unfold bp at hy;cases g:xs[k]? with
 | none=>simp [g] at hy
 | some cs=>
  simp only [g] at hy;split at hy
  .rename_i n;simp only [U5] at hy;subst hy;have D:k < xs.length:=(Vh.1 g).1;rcases F with F | ⟨af,off',arr,I,G,Y,r,Z,y⟩
   .omega
   .simp only [U5,Wq] at G;obtain⟨rfl,rfl,_⟩:=G;obtain⟨E,v⟩:=y.get g;have gl:=B.length;have N:(k+1) * sz<=cap * sz:=Wj _ (by omega);have e2:(k+1) * sz=k * sz+sz:=Wn _ _;have e:o+k * sz+off+d.cells.toList.length<=arr.size:=by omega
    have H:=Ax (P:=P) S r (by rw [<-VG,gl,K]) e (λu U=>(M u U).1);refine⟨_,Y,H,λA' z f C=> ?_⟩;have x:(xs.set k (cg off l cs)).length=xs.length:=by simp
    refine⟨some ⟨b,o,none⟩,cap,by rw [x],by rw [x];exact V,W,X, .inr ⟨b,o,_,I,rfl,C,setRow_heap w b arr _ I (0,0) r, ?_, ?_⟩⟩
    .have:=qK (o+k * sz+off) d.cells.toList arr.toList (by simpa using e);simp only [WW];rw [this];simpa using Z
    .have a:∀p,(w.setRow b (cg (o+k * sz+off) d.cells.toList arr.toList).toArray).cell? ⟨b,p,none⟩=if o+k * sz+off<=p/\p < o+k * sz+off+d.cells.toList.length then d.cells.toList[p - (o+k * sz+off)]? else w.cell? ⟨b,p,none⟩:=by
      intro p;rw [uC r,XS,sX _ _ _ (by simpa using e),kT r];simp
     have q:(cg off l cs).length=sz:=by rw [qK off l cs n,E]
     refine aY.set f y D q ?_ ?_
     .refine aV.cg (aV.cells f (λj i=> ?_) (v.take off)) ?_ ?_ (by omega)
      .have lt:(cs.take off).length=off:=by rw [V7];omega
       rw [lt] at i;rw [a,if_neg (by omega)]
      .refine aV.lA (aT.mono f _ _ B) (λj u i=> ?_);have hj':j < d.cells.toList.length:=(Vh.1 i).1;rw [a,if_pos (by omega)];rw [show o+k * sz+off+j - (o+k * sz+off)=j by omega];exact i
      .have:=v.drop (off+l.length);rw [show o+k * sz+off+l.length=o+k * sz+ (off+l.length) by omega];refine aV.cells f (λj i=> ?_) this;rw [a,if_neg (by omega)]
     .intro p h1 h2 h3;rw [a,if_neg (by omega)]
  .simp at hy
theorem zr{n:Nat}{p:Bool×List (List T)}:∀{es:List Row},bC n es=some p->∃k e,es[k]? =some e/\e.n=n/\e.own=some p/\∀q,dO n q es=es.set k {e with own:=q}
 | [],h=>by simp [bC] at h
 | e::es,h=>by
  unfold bC at h;by_cases c:e.n=n
  .rw [if_pos c] at h;exact⟨0,e,rfl,c,h,λq=>by simp [dO,c]⟩
  .rw [if_neg c] at h;obtain⟨k,e',h1,a,b,d⟩:=zr h;exact⟨k+1,e',by simpa using h1,a,b,λq=>by simp [dO,c,d]⟩
theorem vJ{es:List Row}(h:(es.map (·.n)).Nodup){j k:Nat}{x y:Row}(d:es[j]? =some x)(f:es[k]? =some y)(e:x.n=y.n):j=k:=by
 have h1:(es.map (·.n))[j]? =some x.n:=by simp [d]
 have b:(es.map (·.n))[k]? =some x.n:=by simp [f,e]
 obtain⟨g,a⟩:=Vh.1 h1;obtain⟨i,e2⟩:=Vh.1 b;exact(List.getElem_inj h).1 (a.trans e2.symm)
theorem JE:∀{l:List Nat} {k x:Nat},l.Nodup->x∉l->(l.set k x).Nodup
 | [],_,_,_,_=>by simp
 | a::l,0,x,b,d=>by simp only [Zk,WA,Vk,not_or] at b d⊢;exact⟨d.2,b.2⟩
 | a::l,k+1,x,b,d=>by
  simp only [X9,WA,Vk,not_or] at b d⊢;refine⟨λhm=> ?_,JE b.2 d.2⟩;rcases VR hm with h | h
  .exact b.1 h
  .exact d.1 h.symm
theorem Qf{O':Id->Option Nat}(hs:HS c w h ρ O)(a:Id->Option Id)(d:∀k b,O' k=some b->∃x,a k=some x/\O x=some b)(e:∀k f x,a k=some x->a f=some x->k=f):∀i j b,O' i=some b->O' j=some b->i=j:=by intro i j b hi g;obtain⟨x,l,x2⟩:=d i b hi;obtain⟨y,m,n⟩:=d j b g;have:=hs.inj x y b x2 n;subst this;exact e i j x l m
theorem HS.R1{i j:Id}{b bb:Bool}{sz aD rsz nx k af:Nat}{es:List Row}{e:Row}{xs:List (List T)}{G:Value}{cs:Array Value}(hs:HS c w h ρ O)(hi:h i=some (.rows b sz aD rsz nx es))(U:h j=some (.sl false rsz bb xs))(R:es[k]? =some e)(hv:ρ j=some G)
  {a:Option Addr} {cap:Nat} (hρ:ρ i=some (.slice a es.length cap)) {off:Nat} {arr:Array Value} {t:TypeId} (ha:a=some ⟨af,off,none⟩) (hO:O i=some af) (hb:w.heap[af]? =some (.cells arr t (0,0))) (hfit:off+cap * sz<=arr.size)
  (Y:cs= (cg (off+k * sz+aD) [G] arr.toList).toArray):
  ∃ρ' O',Le w ρ O (w.setRow af cs) ρ' O'/\HS c (w.setRow af cs) (aE (aE h j (some .dead)) i (some (.rows b sz aD rsz (nx+1) (es.set k ⟨nx,e.cs,some (bb,xs)⟩)))) ρ' O':=by
 obtain⟨a',cap',r1,r2,r3,⟨n1,X,n3,n4⟩,r5⟩:=hs.af i _ hi;rw [hρ] at r1;simp only [U5,WG] at r1;obtain⟨rfl, -,rfl⟩:=r1;have hlt:k < es.length:=(Vh.1 R).1;have M:cw w (AA c w O) ρ O i af sz aD rsz off es:=by
  rcases r5 with r5 | ⟨blk',off',arr',t',q1,q2,q3,q4,q5⟩
  .omega
  .rw [ha] at q1;simp only [U5,Wq] at q1;obtain⟨rfl,rfl,_⟩:=q1;exact q5
 have hen:e.n < nx:=X e (U8 R);have D:=hs.real (i:=i) (by rw [hi];simp);have L:=hs.real (i:=j) (by rw [U];simp);have Z:j≠i:=λe=>by rw [e,hi] at U;cases U
 have K:∀n,Id.g i n≠j:=λn=>aR L;obtain⟨v',s1,s2,_⟩:=hs.af j _ U;rw [hv] at s1;cases s1;have F:=M.get R;have hcol:=F.2.1;have hbnd:(k+1) * sz<=cap * sz:=Wj _ (by omega);have e2:(k+1) * sz=k * sz+sz:=Wn _ _;have I:off+k * sz+aD+ [G].length<=arr.toList.length:=by simp;omega
 let ρ':Id->Option Value:=aE ρ (.g i nx) (some G);let O':Id->Option Nat:=λx=>if x= .g i nx then O j else if x=j then none else if x= .g i e.n then none else O x;have C:∀x,x≠ .g i nx->x≠j->x≠ .g i e.n->O' x=O x:=λx h1 E N=>by simp only [O',if_neg h1,if_neg E,if_neg N]
 have hOn:O' (.g i nx)=O j:=by simp only [O',if_true]
 have hOj:O' j=none:=by simp only [O',if_neg (K nx).symm,if_true]
 have hOe:O' (.g i e.n)=none:=by
  have h1:Id.g i e.n≠ .g i nx:=by intro h;cases h;omega
  simp only [O',if_neg h1,if_neg (K e.n),if_true]
 have H:∀x d,O' x=some d->(x= .g i nx/\O j=some d)\/(x≠ .g i nx/\x≠j/\x≠ .g i e.n/\O x=some d):=by
  intro x d l;simp only [O'] at l;split at l
  .exact .inl ⟨by assumption,l⟩
  .split at l
   .cases l
   .split at l
    .cases l
    .exact .inr ⟨by assumption,by assumption,by assumption,l⟩
 have le:Le w ρ O (w.setRow af cs) ρ' O':=by
  refine⟨rfl,rfl,rfl,by rw [qP];exact Vs _,λx u l=> ?_,λd _ hn=>setRow_other w af d _ λe=>hn i (e▸hO),λx d l=> ?_⟩
  .by_cases e:x= .g i nx
   .subst e;rw [n3 nx (Vs _)] at l;cases l
   .simp only [ρ'];rw [au _ _ e];exact l
  .rcases H x d l with⟨_,h⟩ | ⟨_,_,_,h⟩
   .exact .inl ⟨j,h⟩
   .exact .inl ⟨x,h⟩
 have r:∀x d,x≠i->O x=some d->(w.setRow af cs).heap[d]? =w.heap[d]?:=λx d l o=>setRow_other w af d _ λe=>l (hs.inj x i af (e▸o) hO);refine⟨ρ',O',le,hs.oU le (λx y l=> ?_) (λx W l=> ?_) (λx n=> ?_) (λx n l=> ?_) (λx n u Q=> ?_) ?_ (λx d l=> ?_)⟩
 .by_cases q:x=i
  .subst q;rw [aF] at l;cases l;right;have S:(es.set k ⟨nx,e.cs,some (bb,xs)⟩).length=es.length:=by simp
   refine⟨a,cap, ?_,by rw [S];exact r2,r3,⟨?_,λf B=> ?_,λn hn=> ?_,λn d o=> ?_⟩, .inr ⟨af,off,cs,t,ha, ?_,setRow_heap w af arr _ t (0,0) hb, ?_, ?_⟩⟩
   .rw [S];simp only [ρ'];rw [au _ _ (aR D).symm];exact hρ
   .rw [X2];refine JE n1 ?_;intro hm;obtain⟨f,B,e⟩:=VJ.1 hm;simp only at e;have:=X f B;omega
   .rcases VR B with B | rfl
    .have:=X f B;omega
    .simp
   .have h1:Id.g x n≠ .g x nx:=by intro h;cases h;omega
    simp only [ρ'];rw [au _ _ h1];exact n3 n (by omega)
   .rcases H _ d o with⟨h,_⟩ | ⟨h1,_,N,h4⟩
    .cases h;exact⟨_,List.mem_set hlt _,rfl⟩
    .obtain⟨f,B,J⟩:=n4 n d h4;obtain⟨m,hm⟩:=Yg.1 B;have hmk:m≠k:=λe'=>by rw [e',R] at hm;cases hm;rw [J] at N;exact N rfl
     refine⟨f,Yg.2 ⟨m, ?_⟩,J⟩;rw [WE,if_neg (Zg hmk)];exact hm
   .rw [C x (aR D).symm (Zg Z) (aR D).symm];exact hO
   .rw [Y,WW,qK _ _ _ I];simpa using hfit
   .have v:∀p,(w.setRow af cs).cell? ⟨af,p,none⟩=if off+k * sz+aD<=p/\p < off+k * sz+aD+1 then some G else w.cell? ⟨af,p,none⟩:=by
     intro p;rw [uC hb,Y,XS,sX _ _ _ I,kT hb];by_cases V:off+k * sz+aD<=p/\p < off+k * sz+aD+1
     .rw [if_pos (by simpa using V),if_pos V,show p - (off+k * sz+aD)=0 by omega];rfl
     .rw [if_neg (by simpa using V),if_neg V];simp
    refine cw.set (λd o=>le.A d o) hlt (λp p1 p2 p3=>by rw [v,if_neg (by omega)]) (λm f hm B=> ?_) ?_ M
    .have J:f.n≠e.n:=λe'=>hm (vJ n1 B R e');have hfx:f.n≠nx:=by have:=X f (U8 B);omega
     have h1:Id.g x f.n≠ .g x nx:=by intro h;simp only [Id.g.injEq] at h;exact hfx h.2
     have E:Id.g x f.n≠ .g x e.n:=by intro h;simp only [Id.g.injEq] at h;exact J h.2
     refine⟨by simp only [ρ'];exact au _ _ h1,C _ h1 (K _) E,λd o=>r _ d (aR D) o⟩
    .refine⟨F.1,hcol,λm y hm hy=> ?_,G,by rw [v,if_pos (by omega)],by simp only [ρ'];exact aF _ _ _, ?_⟩
     .obtain⟨u,g1,g2⟩:=F.2.2.1 m y hm hy;have hml:m < sz:=by have:=(Vh.1 hy).1;rw [F.1] at this;exact this
      exact⟨u,by rw [v,if_neg (by omega)];exact g1,aA.mono (λd o=>le.A d o) y u g2⟩
     .simp only;refine cU.mono (λd o=>le.A d o) (λd o=> ?_) s2;simp only [VD,if_false] at o;rw [hOn];exact⟨o,r j d Z o⟩
  .rw [au _ _ q] at l;by_cases e3:x=j
   .subst e3;rw [aF] at l;cases l;exact .inr ⟨⟨G,by simp only [ρ'];rw [au _ _ (K nx).symm];exact hv,kI hs hv⟩,hOj⟩
   .rw [au _ _ e3] at l;have hrx:=hs.real (i:=x) (by rw [l];simp);refine .inl ⟨l,C x (aR hrx).symm e3 (aR hrx).symm,λd o=>r x d q o,λn=> ?_⟩;have h1:∀m,Id.g x n≠ .g i m:=by intro m h;cases h;exact q rfl
    exact⟨by simp only [ρ'];exact au _ _ (h1 _),C _ (h1 _) (aR L) (h1 _),λd o=>r _ d (aR D) o⟩
 .by_cases q:x=i
  .subst q;rw [aF] at l;cases l
  .rw [au _ _ q] at l;by_cases e3:x=j
   .subst e3;rw [aF] at l;cases l
   .rw [au _ _ e3] at l;have:=hs.cG x W l;refine⟨?_, ?_⟩
    .simp only [ρ'];rw [au _ _ (aR W).symm];exact this.1
    .rw [C x (aR W).symm e3 (aR W).symm];exact this.2
 .rw [au _ _ (aR D),au _ _ (aR L)];exact hs.eO x n
 .by_cases q:x=i
  .subst q;rw [aF] at l;cases l
  .rw [au _ _ q] at l;by_cases e3:x=j
   .subst e3;rw [aF] at l;cases l
   .rw [au _ _ e3] at l;have:=hs.fY x n l;have h1:∀m,Id.g x n≠ .g i m:=by intro m h;cases h;exact q rfl
    refine⟨?_, ?_⟩
    .simp only [ρ'];rw [au _ _ (h1 _)];exact this.1
    .rw [C _ (h1 _) (aR L) (h1 _)];exact this.2
 .by_cases q:Id.g x n= .g i nx
  .rw [q] at Q;simp only [ρ',aF,U5] at Q;subst Q;exact kI hs hv
  .simp only [ρ'] at Q;rw [au _ _ q] at Q;exact hs.gone x n u Q
 .refine Qf hs (λx=>if x= .g i nx then some j else if x=j then none else some x) (λx d l=> ?_) (λx y z l hy=> ?_)
  .rcases H x d l with⟨h1,E⟩ | ⟨h1,E,_,N⟩
   .exact⟨j,by rw [if_pos h1],E⟩
   .exact⟨x,by rw [if_neg h1,if_neg E],N⟩
  .split at l <;> split at hy
   .rename_i h1 E;rw [h1,E]
   .split at hy
    .cases hy
    .simp only [U5] at l hy;subst l;rename_i h;exact(h hy).elim
   .split at l
    .cases l
    .simp only [U5] at l hy;subst hy;rename_i h;exact(h l).elim
   .split at l
    .cases l
    .split at hy
     .cases hy
     .simp only [U5] at l hy;rw [l,hy]
 .rw [qP];rcases H x d l with⟨_,h⟩ | ⟨_,_,_,h⟩
  .exact hs.lt _ d h
  .exact hs.lt _ d h
theorem HS.UT{i:Id}{n r:Nat}{b:Bool}{sz aD rsz nx:Nat}{es:List Row}{p:Bool×List (List T)}{F:List (List T)}{v:Value}{cs:Array Value}(hs:HS c w h ρ O)(hi:h i=some (.rows b sz aD rsz nx es))(hf:bC n es=some p)(M:O (.g i n)=some r)
  (hv:ρ (.g i n)=some v) (R:cU (w.setRow r cs) (AA c (w.setRow r cs) O) rsz p.1 F v (λd=>O (.g i n)=some d)):
  HS c (w.setRow r cs) (aE h i (some (.rows b sz aD rsz nx (dO n (some (p.1,F)) es)))) ρ O:=by
 have le:Le w ρ O (w.setRow r cs) ρ O:=AD M _;have H:=hs.real (i:=i) (by rw [hi];simp);have o:∀x d,x≠ .g i n->O x=some d->(w.setRow r cs).heap[d]? =w.heap[d]?:=λx d j l=>setRow_other w r d _ λe=>j (hs.inj x _ r (e▸l) M);obtain⟨k,e,C,G,heo,K⟩:=zr hf;refine hs.oU le (λx y j=> ?_) (λx hr j=> ?_) (λx m=> ?_) (λx m j=> ?_) hs.gone hs.inj (λx d l=>by rw [qP];exact hs.lt x d l)
 .by_cases z:x=i
  .subst z;rw [aF] at j;cases j;right;obtain⟨a,cap,r1,r2,r3,⟨S,U,n3,n4⟩,L⟩:=hs.af x _ hi;rw [K];have D:(es.set k {e with own:=some (p.1,F)}).length=es.length:=by simp
   have E:(es.set k {e with own:=some (p.1,F)}).map (·.n)=es.map (·.n):=by
    rw [X2];refine XD λm=> ?_;rw [WE];split
    .rename_i h;subst h;have:=(Vh.1 C).1;rw [if_pos (by simpa using this)];simp [C]
    .rfl
   refine⟨a,cap,by rw [D];exact r1,by rw [D];exact r2,r3,⟨by rw [E];exact S,λf q=> ?_,n3,λm d l=> ?_⟩, ?_⟩
   .rcases VR q with q | rfl
    .exact U f q
    .exact U e (U8 C)
   .obtain⟨f,q,N⟩:=n4 m d l;have:m∈(es.set k {e with own:=some (p.1,F)}).map (·.n):=by rw [E];exact VJ.2 ⟨f,q,N⟩
    obtain⟨f',h1,h2⟩:=VJ.1 this;exact⟨f',h1,h2⟩
   .rcases L with L | ⟨af,off,arr,t,q1,V,q3,q4,W⟩
    .exact .inl L
    .have B:(w.setRow r cs).heap[af]? =w.heap[af]?:=o x af (aR H).symm V;refine .inr ⟨af,off,arr,t,q1,V,by rw [B];exact q3,q4, ?_⟩;have J:=W.get C;refine cw.set (λd l=>le.A d l) (Vh.1 C).1 (λ_ _ _ _=>ny B) (λm f hm q=>⟨rfl,rfl,λd l=>o _ d (λh=> ?_) l⟩) ?_ W
     .simp only [Id.g.injEq] at h;exact hm (vJ S q C (by rw [h.2,G]))
     .obtain⟨Y,Z,a3,u,a4,I,a7⟩:=J;refine⟨Y,Z,λm y hm hy=> ?_,u,by rw [ny B];exact a4,I, ?_⟩
      .obtain⟨X,g1,g2⟩:=a3 m y hm hy;exact⟨X,by rw [ny B];exact g1,aA.mono (λd l=>le.A d l) y X g2⟩
      .simp only;rw [G] at I⊢;rw [I] at hv;cases hv;exact R
  .rw [au _ _ z] at j;have Q:=hs.real (i:=x) (by rw [j];simp);refine .inl ⟨j,rfl,λd l=>o x d (aR Q).symm l,λm=>⟨rfl,rfl,λd l=>o _ d (λh=> ?_) l⟩⟩;simp only [Id.g.injEq] at h;exact z h.1
 .by_cases z:x=i
  .subst z;rw [aF] at j;cases j
  .rw [au _ _ z] at j;exact hs.cG x hr j
 .rw [au _ _ (aR H)];exact hs.eO x m
 .by_cases z:x=i
  .subst z;rw [aF] at j;cases j
  .rw [au _ _ z] at j;exact hs.fY x m j
theorem TC{R:Type}{t:TypeId}{a v:AV}{va y:Value}{K:aH->Option R}{r:R}(hs:HS c w s.h ρ O)(J:ao w (AA c w O) ρ a va)(hx:ao w (AA c w O) ρ v y)(f:jB P s t a v K=some r):
  ∃us w' ρ' O',K us=some r/\(Instr.storeAt t va y).run P w= .ok () w'/\Le w ρ O w' ρ' O'/\HS c w' (aK s.h us) ρ' O':=by
 unfold jB at f;cases Z:bV P t
 .simp [Z] at f
 simp only [Z,cond_true] at f;split at f
 .rename_i i off;split at f
  .rename_i cs hi;split at f
   .rename_i q;obtain⟨Q,I,c3⟩:=q;obtain⟨b,arr,t',h1,h2,h3,h4,h5,h6⟩:=BS hs hi;simp only [ao] at J;obtain⟨H,x,rfl⟩:=J;rw [h1] at x;simp only [U5,Xe,Wq] at x;obtain⟨rfl,_⟩:=x;obtain⟨S,X⟩:=yF hs hx I;have gl:=S.length;have hl:=h4.length;have D:off+y.cells.toList.length<=arr.size:=by rw [gl];simp only [VG] at hl;omega
    have B:=Ax (P:=P) Z h3 (by rw [<-VG,gl,Q]) D (λu hu=>(X u hu).1);have le:Le w ρ O (w.setRow b (cg off y.cells.toList arr.toList).toArray) ρ O:=AD h2 _;refine⟨_,_,ρ,O,f,by simpa [Instr.storeAt,Instr.sureAddr] using B,le, ?_⟩;rw [eX];refine hs.write h2 le (λk f=>setRow_other w b k _ f) _ ?_ (by rw [hi];simp);refine⟨b,_,t',h1,h2,setRow_heap w b arr _ t' (0,0) h3, ?_, ?_⟩
    .have m:∀(as:List AV) (vs:List Value),aC w (AA c w O) ρ as vs->aC _ _ ρ as vs:=λas vs hr=>aC.mono (λb hb=>le.A b hb) le.fb as vs hr;exact aC.cg (m _ _ h4) (m _ _ S) off
    .intro u hu;simp only [cg,Vr] at hu;rcases hu with(hu | hu) | hu
     .exact h5 u (WZ hu)
     .exact X u hu
     .exact h5 u (Xm hu)
   .simp at f
  .simp at f
 .rename_i i sz k off;split at f
  .rename_i g bb xs hi;obtain⟨l,hsn,f⟩:=U6.1 f;split at f
   .rename_i q;obtain⟨rfl,Q,I⟩:=q;replace f:=aO f (.inl rfl);obtain⟨ys,hy,f⟩:=f;have E:∀p∈hJ s.h v,p.1≠i:=by
     intro p Y e;have:=Ie Y;rw [e] at this;simp only [List.contains_eq_mem,decide_eq_false_iff_not] at I;exact I this
    obtain⟨G,df,N,o1,o2,o3⟩:=HS.sC hs (CX (h:=s.h) v);obtain⟨S,X⟩:=Ex hs hx hsn df o1 o2;have M:aK s.h (hJ s.h v) i=some (.sl false g bb xs):=by rw [eF E];exact hi
    obtain⟨vv,q0,a',cap',q1,q2,q3,q4,q5⟩:=oa N M;simp only [ao] at J;obtain⟨b,o,L,cap,x,rfl⟩:=J;rw [q0] at x;simp only [U5] at x;subst x;simp only [WG] at q1;obtain⟨rfl,rfl,rfl⟩:=q1;unfold bp at hy;cases W:xs[k]? with
    | none=>simp [W] at hy
    | some cs=>
     simp only [W] at hy;split at hy
     .rename_i hfit0;simp only [U5] at hy;subst hy;have hlt:k < xs.length:=(Vh.1 W).1;rcases q5 with q5 | ⟨af,off',arr,t',q6,q7,q8,q9,q10⟩
      .omega
      .simp only [U5,Wq] at q6;obtain⟨rfl,rfl,_⟩:=q6;simp only [VD,if_false] at q7;obtain⟨lcs,hcs⟩:=q10.get W;have gl:=S.length;have hbnd:(k+1) * g<=cap * g:=Wj _ (by omega);have e2:(k+1) * g=k * g+g:=Wn _ _;have D:o+k * g+off+y.cells.toList.length<=arr.size:=by omega
       have B:=Ax (P:=P) Z q8 (by rw [<-VG,gl,Q]) D (λu hu=>(X u hu).1);have F:Le w ρ G (w.setRow b (cg (o+k * g+off) y.cells.toList arr.toList).toArray) ρ G:=AD q7 _;refine⟨_,_,ρ,G,f,by simpa [Instr.storeAt,Instr.sureAddr] using B,df.trans F, ?_⟩;rw [dA,wL E];refine N.write q7 F (λk f=>setRow_other w b k _ f) _ ?_ (by rw [M];simp);refine⟨_,q0, ?_,by simp⟩;have hl2:(xs.set k (cg off l cs)).length=xs.length:=by simp
       refine⟨some ⟨b,o,none⟩,cap,by rw [hl2],by rw [hl2];exact q2,q3,q4, .inr ⟨b,o,_,t',rfl,by simpa using q7,setRow_heap w b arr _ t' (0,0) q8, ?_, ?_⟩⟩
       .have:=qK (o+k * g+off) y.cells.toList arr.toList (by simpa using D);simp only [WW];rw [this];simpa using q9
       .have z:∀p,(w.setRow b (cg (o+k * g+off) y.cells.toList arr.toList).toArray).cell? ⟨b,p,none⟩=if o+k * g+off<=p/\p < o+k * g+off+y.cells.toList.length then y.cells.toList[p - (o+k * g+off)]? else w.cell? ⟨b,p,none⟩:=by
         intro p;rw [uC q8,XS,sX _ _ _ (by simpa using D),kT q8];simp
        have V:∀H,AA c w G H->AA c (w.setRow b (cg (o+k * g+off) y.cells.toList arr.toList).toArray) G H/\(w.setRow b (cg (o+k * g+off) y.cells.toList arr.toList).toArray).heap[H]? =w.heap[H]?:=λH hb'=>F.A H hb';have lrepl:(cg off l cs).length=g:=by rw [qK off l cs hfit0,lcs]
        refine aY.set V q10 hlt lrepl ?_ ?_
        .refine aV.cg (aV.cells V (λj T=> ?_) (hcs.take off)) ?_ ?_ (by omega)
         .have lt:(cs.take off).length=off:=by rw [V7];omega
          rw [lt] at T;rw [z,if_neg (by omega)]
         .refine aV.lA (aT.mono V _ _ S) (λj u T=> ?_);have hj':j < y.cells.toList.length:=(Vh.1 T).1;rw [z,if_pos (by omega)];rw [show o+k * g+off+j - (o+k * g+off)=j by omega];exact T
         .have:=hcs.drop (off+l.length);rw [show o+k * g+off+l.length=o+k * g+ (off+l.length) by omega];refine aV.cells V (λj T=> ?_) this;rw [z,if_neg (by omega)]
        .intro p h1 h2 h3;rw [z,if_neg (by omega)]
     .simp at hy
   .simp at f
  .rename_i bb g aD rsz nx es hi;split at f
   .rename_i j;split at f
    .rename_i rsz' H xs T;split at f
     .rename_i q;obtain⟨rfl,rfl,rfl,Q,I⟩:=q;replace f:=aO f (.inl rfl);obtain⟨e,he,f⟩:=f;obtain⟨a,cap,r1,r2,r3,r4,r5⟩:=hs.af i _ hi;simp only [ao] at J hx;obtain⟨b,o,L,cap',x,rfl⟩:=J;have e1':=x;rw [r1] at x;simp only [U5,WG] at x;obtain⟨rfl,rfl,rfl⟩:=x;have hlt:k < es.length:=(Vh.1 he).1;rcases r5 with r5 | ⟨af,off',arr,t',q1,q2,q3,q4,q5⟩
      .omega
      .simp only [U5,Wq] at q1;obtain⟨rfl,rfl,_⟩:=q1;have U:=kI hs hx;have hcol:=(q5.get he).2.1;have hbnd:(k+1) * g<=cap * g:=Wj _ (by omega);have e2:(k+1) * g=k * g+g:=Wn _ _;have C:y.cells.toList= [y]:=by rw [U.2]
       have B:=Ax (P:=P) (w:=w) (v:=y) Z q3 (by rw [U.2,Q];rfl) (off:=o+k * g+off) (by rw [C];simp;omega) (λu hu=>by rw [C,Vj] at hu;subst hu;exact U.1);rw [C] at B;obtain⟨ρ',O',le,hs'⟩:=hs.R1 hi T he hx r1 rfl q2 q3 q4 rfl;refine⟨_,_,ρ',O',f,by simpa [Instr.storeAt,Instr.sureAddr] using B,le, ?_⟩;rw [dA,eX];exact hs'
     .simp at f
    .simp at f
   .simp at f
  .simp at f
 .rename_i i sz n k off;split at f
  .rename_i b g aD rsz nx es hi;replace f:=aO f (.inl rfl);obtain⟨p,Y,f⟩:=f;replace f:=U6.1 f;obtain⟨l,hsn,f⟩:=f;split at f
   .rename_i q;obtain⟨rfl,Q,I⟩:=q;replace f:=aO f (.inl rfl);obtain⟨ys,hy,f⟩:=f;have E:∀p∈hJ s.h v,p.1≠i:=by
     intro p Y e;have:=Ie Y;rw [e] at this;simp only [List.contains_eq_mem,decide_eq_false_iff_not] at I;exact I this
    obtain⟨G,df,N,o1,o2,o3⟩:=HS.sC hs (CX (h:=s.h) v);obtain⟨S,X⟩:=Ex hs hx hsn df o1 o2;have M:aK s.h (hJ s.h v) i=some (.rows b g aD rsz nx es):=by rw [eF E];exact hi
    obtain⟨vv,q0,q1⟩:=Au (s:=⟨s.t,aK s.h (hJ s.h v)⟩) N M Y;simp only [ao] at J;obtain⟨bk,o,L,cap,x,rfl⟩:=J;rw [q0] at x;simp only [U5] at x;subst x;obtain⟨cs,hOb,B,hsl⟩:=q1.put (P:=P) hy Z Q S X;have F:Le w ρ G (w.setRow bk cs) ρ G:=AD hOb _;refine⟨_,_,ρ,G,f,by simpa [Instr.storeAt,Instr.sureAddr] using B,df.trans F, ?_⟩;rw [dA,wL E];exact N.UT M Y hOb q0 (hsl _ _ (λd hd=>F.A d hd) hOb)
   .simp at f
  .simp at f
 .simp at f
theorem Ko(t:TypeId)(cells:Array Value):(newRow t cells).run P w= .ok ⟨w.heap.size,0,none⟩ (w.alloc (.cells cells t)):=by simp [newRow]
theorem kZ(o:Obj):(w.alloc o).heap[w.heap.size]? =some o:=by show(w.heap.push o)[w.heap.size]? =some o;simp
theorem HS.Jy{i:Id}(hs:HS c w h ρ O)(hi:h i=none){cs:List AV}{vs:List Value}(t:TypeId)(hv:aC w (AA c w O) ρ cs vs)(h1:∀u∈vs,u.oneCell'=true/\u.cells= #[u])(hrl:i.real=true:=by rfl):
  Le w ρ O (w.alloc (.cells vs.toArray t)) (aE ρ i (some (.pointer (some ⟨w.heap.size,0,none⟩)))) (aE O i (some w.heap.size))/\
  HS c (w.alloc (.cells vs.toArray t)) (aE h i (some (.box cs))) (aE ρ i (some (.pointer (some ⟨w.heap.size,0,none⟩)))) (aE O i (some w.heap.size)):=by
 have le:=Le.alloc hs hrl hi (.cells vs.toArray t) (.pointer (some ⟨w.heap.size,0,none⟩)) (some w.heap.size) (.inr rfl);refine⟨le,hs.alloc hrl hi _ _ _ (.inr rfl) _ ⟨w.heap.size,vs.toArray,t,by simp,by simp,kZ _, ?_,h1⟩⟩;exact aC.mono (λb hb=>le.A b hb) le.fb _ _ hv
theorem HS.Rs{i:Id}(hs:HS c w h ρ O)(hi:h i=none){cs:List AV}{arr:Array Value}(t:TypeId)(hv:aC w (AA c w O) ρ cs arr.toList)(h1:∀u∈arr.toList,u.oneCell'=true/\u.cells= #[u])(hrl:i.real=true:=by rfl):
  Le w ρ O (w.alloc (.cells arr t)) (aE ρ i (some (.slice (some ⟨w.heap.size,0,none⟩) 1 1))) (aE O i (some w.heap.size))/\
  HS c (w.alloc (.cells arr t)) (aE h i (some (.arr cs))) (aE ρ i (some (.slice (some ⟨w.heap.size,0,none⟩) 1 1))) (aE O i (some w.heap.size)):=by
 have le:=Le.alloc hs hrl hi (.cells arr t) (.slice (some ⟨w.heap.size,0,none⟩) 1 1) (some w.heap.size) (.inr rfl);refine⟨le,hs.alloc hrl hi _ _ _ (.inr rfl) _ ⟨w.heap.size,arr,t,by simp,by simp,kZ _, ?_,h1⟩⟩;exact aC.mono (λb hb=>le.A b hb) le.fb _ _ hv
theorem JK{u:Value}{x:T}(e:o9 u=some x):aA w A x u:=by
 cases u <;> simp only [o9,U5,reduceCtorEq] at e
 case slice a l b=>split at e <;> simp_all;subst e;simp [aA]
 case pointer a=>split at e <;> simp_all;subst e;simp [aA]
 case map a=>split at e <;> simp_all;subst e;simp [aA]
 all_goals (subst e;simp [aA])
theorem pa:∀{us:List Value} {l:List T},mf us=some l->aT w A l us
 | [],l,e=>by simp only [mf,U5] at e;subst e;rfl
 | u::us,l,e=>by simp only [mf] at e;obtain⟨x,h1,e⟩:=U6.1 e;obtain⟨b,a,e⟩:=U6.1 e;simp only [U5] at e;subst e;exact⟨u,us,rfl,JK h1,pa a⟩
theorem ow{t:TypeId}{l:List T}(e:jX P t=some l):∃i z,P.info? t=some i/\i.zero=some z/\mf z.cells.toList=some l:=by
 unfold jX at e;split at e
 .rename_i i hi;split at e
  .rename_i z hz;exact⟨i,z,hi,hz,e⟩
  .simp at e
 .simp at e
theorem PS(off:Nat)(v cells:Array Value)(d:off+v.size<=cells.size):(v.zipIdx.foldl (λcs (x:Value×Nat)=>cs.setIfInBounds (off+x.2) x.1) cells).toList=cg off v.toList cells.toList:=by
 obtain⟨f,b⟩:=Go.Great.foldl_set off v.toList 0 cells;have e:v.zipIdx.foldl (λcs (x:Value×Nat)=>cs.setIfInBounds (off+x.2) x.1) cells= (v.toList.zipIdx 0).foldl (λcs (x:Value×Nat)=>cs.setIfInBounds (off+x.2) x.1) cells:=by rw [<-Array.foldl_toList,Array.toList_zipIdx]
 rw [e];apply XD;intro p;rw [Wl,b p,sX off v.toList cells.toList (by simpa using d)];simp only [X1,VG,Wl];by_cases a:off<=p/\p < off+v.size
 .rw [if_pos ⟨a.1,a.2,by omega⟩,if_pos a]
 .rw [if_neg (by omega),if_neg a]
inductive uh (w:World) (A:Nat->Prop) (ρ:Id->Option Value) (place:Nat->Option (Nat×Nat)):List (Nat×List AV)->List (Nat×Value)->Prop
 | nil:uh w A ρ place [] []
 | cons {off:Nat} {l:List AV} {f:Nat} {v:Value} {ls:List (Nat×List AV)} {vs:List (Nat×Value)} (hp:place f=some (off,l.length)) (hr:aC w A ρ l v.cells.toList) (h1:∀u∈v.cells.toList,u.oneCell'=true/\u.cells= #[u])
   (rest:uh w A ρ place ls vs):uh w A ρ place ((off,l)::ls) ((f,v)::vs)
theorem HV{d:Nat->Option (Nat×Nat)}:∀{j:List (Nat×List AV)} {vs:List (Nat×Value)} {i b:List AV} {cells:Array Value},uh w A ρ d j vs->vq j i=some b->aC w A ρ i cells.toList->(∀u∈cells.toList,u.oneCell'=true/\u.cells= #[u])->
  ∃r,Instr.fill d cells vs=some r/\aC w A ρ b r.toList/\∀u∈r.toList,u.oneCell'=true/\u.cells= #[u]
 | [],_,i,b,cells, .nil,a,hz,h1=>by simp only [vq,U5] at a;subst a;exact⟨cells,rfl,hz,h1⟩
 | (off,l)::j,(f,v)::vs,i,b,cells, .cons t o n m,a,hz,h1=>by
  simp only [vq] at a;split at a
  .rename_i q;have k:=o.length;have y:=hz.length;simp only [VG] at k y;have g:off+v.cells.size<=cells.size:=by omega
   have e:=PS off v.cells cells g;obtain⟨r,p,e2,e3⟩:=HV (cells:=v.cells.zipIdx.foldl (λcs (x:Value×Nat)=>cs.setIfInBounds (off+x.2) x.1) cells) m a (by
    rw [e];unfold cg;rw [show v.cells.toList.length=l.length by simpa using k];exact((hz.take off).append o).append (hz.drop _)) (by
    intro u hu;rw [e] at hu;simp only [cg,Vr] at hu;rcases hu with(hu | hu) | hu
    .exact h1 u (WZ hu)
    .exact n u hu
    .exact h1 u (Xm hu))
   refine⟨r, ?_,e2,e3⟩;unfold Instr.fill;simp only [t];rw [if_neg (by simp [k];omega)];exact p
  .simp at a
theorem JU{t:TypeId}{f:Nat}{p:Nat×TypeId}(e:vP P t f=some p)(j:qH P t=true):
  bV P p.2=true/\((∃a,P.underlying t=some (.struct a)/\(a.toList.map λx=>(x.offset,P.cellsOf x.type))[f]? =some (p.1,P.cellsOf p.2))\/
   ∃n e,P.underlying t=some (.array n e)/\p= (f * P.cellsOf e,e)):=by
 unfold vP at e;split at e
 .rename_i q d;simp only [U5] at e;subst e;obtain⟨a,x,h1,b,g,i⟩:=CT d;refine⟨i, .inl ⟨a,h1, ?_⟩⟩;rw [VS,Wl,b];simp [g]
 .split at e
  .rename_i n u d;simp only [U5] at e;subst e;obtain⟨h1,b⟩:=Fv d;exact⟨b, .inr ⟨n,u,h1,rfl⟩⟩
  .simp at e
theorem JW{a:Act}{g:Option Gs}{t:TypeId}(hs:HS c w s.h ρ O)(n:SS w (AA c w O) ρ s.t a.tmps)(m:kQ a.tmps g)(l:qH P t=true)(b:Nat->Option (Nat×Nat))
  (d:∀f p,vP P t f=some p->b f=some (p.1,P.cellsOf p.2)):
  ∀{k:List (Nat×Operand)} {j:List (Nat×List AV)},pf P t (s.get g) k=some j->uh w (AA c w O) ρ b j (k.map λx=>(x.1,a.eval x.2))
 | [],j,e=>by simp only [pf,U5] at e;subst e;exact .nil
 | (f,o)::k,j,e=>by
  simp only [pf] at e;obtain⟨p,v,e⟩:=U6.1 e;split at e
  .rename_i i;obtain⟨q,y,e⟩:=U6.1 e;simp only [U5] at e;subst e;have hv:=SS.get (h:=s.h) n m o;obtain⟨r,u⟩:=yF hs hv i.2;exact .cons (by rw [d f p v,show(St.get ⟨s.t,s.h⟩ g o)=s.get g o from rfl,i.1]) r u (JW hs n m l b d y)
  .simp at e
theorem Mw{a:Act}{g:Option Gs}{t:TypeId}{m:Array (Nat×Operand)}{av:AV}(hs:HS c w s.h ρ O)(U:SS w (AA c w O) ρ s.t a.tmps)(T:kQ a.tmps g)(e:yB P t (s.get g) m.toList=some av):
  ∃v,(Instr.build t (m.map λ(i,x)=>(i,a.eval x))).run P w= .ok v w/\ao w (AA c w O) ρ av v:=by
 unfold yB at e;split at e
 .rename_i b;obtain⟨z,hz,e⟩:=U6.1 e;obtain⟨l,S,e⟩:=U6.1 e;obtain⟨cs,K,e⟩:=U6.1 e;simp only [U5] at e;subst e;obtain⟨i,zv,hi,E,M⟩:=ow hz;have D:aT w (AA c w O) z zv.cells.toList:=pa M;have R:(m.map λ(i,x)=>(i,a.eval x)).toList=m.toList.map λx=>(x.1,a.eval x.2):=by simp
  have key:∀j:Nat->Option (Nat×Nat),(∀f p,vP P t f=some p->j f=some (p.1,P.cellsOf p.2))->∃r,Instr.fill j zv.cells (m.map λ(i,x)=>(i,a.eval x)).toList=some r/\aC w (AA c w O) ρ cs r.toList/\∀u∈r.toList,u.oneCell'=true/\u.cells= #[u]:=by intro j q;rw [R];exact HV (JW hs U T b j q S) K (aC.mj D) D.one
  have C:∀r:Array Value,P.built t (m.map λ(i,x)=>(i,a.eval x)).toList=some r->aC w (AA c w O) ρ cs r.toList->(∀u∈r.toList,u.oneCell'=true/\u.cells= #[u])->
    ∃v,(Instr.build t (m.map λ(i,x)=>(i,a.eval x))).run P w= .ok v w/\ao w (AA c w O) ρ (.agg cs) v:=by
   intro r hb h1 G;exact⟨_,run_build w t _ r hb,by simp only [ao];exact⟨r.toList,by simp,h1,G⟩⟩
  cases k:P.underlying t with
  | none=>simp [qH,k] at b
  | some d=>
   cases d <;> simp only [qH,k,VD] at b
   case struct B=>
    have o:B.toList.mapM (λf=>(P.info? f.type).map λi=>(f.offset,i.size))=some (B.toList.map λx=>(x.offset,P.cellsOf x.type)):=by
     generalize B.toList=l at b;induction l with
     | nil=>rfl
     | cons f l V=>simp only [WK,Vd] at b;obtain⟨d,H⟩:=Xj.1 b.1;obtain⟨i,hi,y⟩:=zM H;simp only [ZM,hi,Xg,Option.bind_eq_bind,Vf,V b.2,Option.pure_def,VN,y]
    obtain⟨r,F,e2,e3⟩:=key ((B.toList.map λx=>(x.offset,P.cellsOf x.type)).toArray[·]?) (λf p I=>by
     obtain⟨_,h | ⟨n,e,h,_⟩⟩:=JU I (by simp [qH,k,b])
     .obtain⟨J,h1,G⟩:=h;rw [k] at h1;simp only [U5,TypeDesc.struct.injEq] at h1;subst h1;simpa using G
     .rw [k] at h;simp at h)
    refine C r ?_ e2 e3;simp only [Program.built,hi,k,E,o];exact F
   case array n e=>
    obtain⟨d,H⟩:=Xj.1 b;obtain⟨Q,L,y⟩:=zM H;obtain⟨r,F,e2,e3⟩:=key (λi=>some (i * Q.size,Q.size)) (λf p I=>by
     obtain⟨_,⟨J,h1,_⟩ | ⟨W,e',h,N⟩⟩:=JU I (by simp [qH,k,b])
     .rw [k] at h1;simp at h1
     .rw [k] at h;simp only [U5,TypeDesc.array.injEq] at h;obtain⟨rfl,rfl⟩:=h;subst N;simp [y])
    refine C r ?_ e2 e3;simp only [Program.built,hi,k,E,L];exact F
 .simp at e
end
open Go
section
variable {P:Program} {w w':World} {A A':Nat->Prop} {c:Ctx} {ρ:Id->Option Value} {O:Id->Option Nat} {s:St} {cc:Option Bool} {h:Id->Option ab}
def cF(w:World)(A:Nat->Prop)(sz:Nat):List (List T)->List (List Value)->Prop
 | [],vss=>vss= []
 | cs::xs,vss=>∃vs r,vss=vs::r/\cs.length=sz/\aT w A cs vs/\cF w A sz xs r
theorem cF.mono{sz:Nat}(a:∀b,A b->A' b/\w'.heap[b]? =w.heap[b]?):∀{xs:List (List T)} {vss:List (List Value)},cF w A sz xs vss->cF w' A' sz xs vss
 | [],_,h=>h
 | cs::xs,vss,⟨vs,r,e,h1,d,f⟩=>⟨vs,r,e,h1,aT.mono a cs vs d,cF.mono a f⟩
theorem cF.length{sz:Nat}:∀{xs:List (List T)} {vss:List (List Value)},cF w A sz xs vss->vss.length=xs.length/\vss.flatten.length=xs.length * sz
 | [],vss,h=>by simp only [cF] at h;subst h;simp
 | cs::xs,vss,⟨vs,r,e,h1,d,f⟩=>by subst e;obtain⟨a,b⟩:=cF.length f;have:=d.length;refine⟨by simp [a], ?_⟩;simp only [Xq,Wr,b,this,h1,Vw,Wn];omega
theorem cF.one{sz:Nat}:∀{xs:List (List T)} {vss:List (List Value)},cF w A sz xs vss->∀u∈vss.flatten,u.oneCell'=true/\u.cells= #[u]
 | [],vss,h,u,hu=>by simp only [cF] at h;subst h;simp at hu
 | cs::xs,vss,⟨vs,r,e,h1,a,b⟩,u,hu=>by
  subst e;simp only [Xq,Vr] at hu;rcases hu with hu | hu
  .exact a.one u hu
  .exact cF.one b u hu
theorem cF.append{sz:Nat}:∀{xs d:List (List T)} {vss a:List (List Value)},cF w A sz xs vss->cF w A sz d a->cF w A sz (xs++d) (vss++a)
 | [],_,vss,_,h,b=>by simp only [cF] at h;subst h;simpa using b
 | cs::xs,d,vss,a,⟨vs,r,e,h1,f,g⟩,b=>by subst e;exact⟨vs,r++a,rfl,h1,f,cF.append g b⟩
theorem aY.bg{af sz:Nat}:∀{off:Nat} {xs:List (List T)},aY w A af sz off xs->∃vss,cF w A sz xs vss/\∀p v,vss.flatten[p]? =some v->w.cell? ⟨af,off+p,none⟩=some v
 | _,[],_=>⟨[],rfl,by simp⟩
 | off,cs::xs,h=>by
  simp only [aY] at h;obtain⟨vs,h1,d⟩:=h.2.1.bg;obtain⟨r,e,f⟩:=aY.bg h.2.2;refine⟨vs::r,⟨vs,r,rfl,h.1,h1,e⟩,λp v a=> ?_⟩;have b:=h1.length;rw [h.1] at b;rw [Xq] at a;by_cases g:p < sz
  .rw [WH (by omega)] at a;exact d p v a
  .rw [Wo (by omega),b] at a;have:=f _ v a;rw [show off+sz+ (p - sz)=off+p by omega] at this;exact this
theorem aY.lA{af sz:Nat}:∀{off:Nat} {xs:List (List T)} {vss:List (List Value)},cF w A sz xs vss->(∀p v,vss.flatten[p]? =some v->w.cell? ⟨af,off+p,none⟩=some v)->aY w A af sz off xs
 | _,[],_,_,_=>by simp [aY]
 | off,cs::xs,vss,⟨vs,r,e,h1,a,f⟩,hv=>by
  subst e;have d:=a.length;rw [h1] at d;simp only [aY];refine⟨h1,aV.lA a (λj v b=>hv j v ?_),aY.lA f (λp v g=> ?_)⟩
  .rw [Xq,WH (Vh.1 b).1];exact b
  .have:=hv (sz+p) v (by rw [Xq,Wo (by omega),d,show sz+p - sz=p by omega];exact g);rw [show off+sz+p=off+ (sz+p) by omega];exact this
theorem HS.DB{i:Id}(hs:HS c w h ρ O)(hi:h i=none){xs:List (List T)}{vss:List (List Value)}{sz:Nat}(t:TypeId)(cells:Array Value)(cap:Nat)(f:cF w (AA c w O) sz xs vss)
  (d:∀(p:Nat) (v:Value),vss.flatten[p]? =some v->cells[p]? =some v) (a:xs.length<=cap) (g:cap * sz<=cells.size) (hrl:i.real=true:=by rfl):
  Le w ρ O (w.alloc (.cells cells t)) (aE ρ i (some (.slice (some ⟨w.heap.size,0,none⟩) xs.length cap))) (aE O i (some w.heap.size))/\
  HS c (w.alloc (.cells cells t)) (aE h i (some (.sl false sz false xs))) (aE ρ i (some (.slice (some ⟨w.heap.size,0,none⟩) xs.length cap))) (aE O i (some w.heap.size)):=by
 have le:=Le.alloc hs hrl hi (.cells cells t) (.slice (some ⟨w.heap.size,0,none⟩) xs.length cap) (some w.heap.size) (.inr rfl);refine⟨le,hs.alloc hrl hi _ _ _ (.inr rfl) _ ⟨_,by rw [aF],⟨some ⟨w.heap.size,0,none⟩,cap,rfl,a,by simp,trivial, .inr ⟨w.heap.size,0,cells,t,rfl,by simp,kZ _,by omega, ?_⟩⟩,by simp⟩⟩;refine aY.lA (cF.mono (λb hb=>le.A b hb) f) (λp v e=> ?_);rw [kT (kZ _),VM];exact d p v e
theorem Hi{a:Act}{g:Option Gs}{e:TypeId}(hs:HS c w s.h ρ O)(D:SS w (AA c w O) ρ s.t a.tmps)(C:kQ a.tmps g){O':Id->Option Nat}(le:Le w ρ O w ρ O')(m:∀i,O' i=O i\/O' i=none):
  ∀{y:List (Nat×Operand)} {n:Nat} {q:List (List T)×aH},iY P s.h e (s.get g) n y=some q->(∀p∈q.2,O' p.1=none)->
   ∃vs:List Value,(y.map λx=>(x.1,a.eval x.2))= ((vs.zipIdx n).map λx=>(x.2,x.1))/\cF w (AA c w O') (P.cellsOf e) q.1 (vs.map λv=>v.cells.toList)/\(∀v∈vs,v.cells.size=P.cellsOf e)
 | [],n,q,b,_=>by simp only [iY,U5] at b;subst b;exact⟨[],rfl,by simp [cF],by simp⟩
 | (k,o)::y,n,q,b,r=>by
  simp only [iY] at b;obtain⟨l,F,b⟩:=U6.1 b;split at b
  .rename_i j;obtain⟨rfl,d⟩:=j;obtain⟨H,B,b⟩:=U6.1 b;simp only [U5] at b;subst b;simp only [Vr] at r;obtain⟨vs,E,e2,e3⟩:=Hi hs D C le m B (λp u=>r p (.inr u));have hv:=SS.get (h:=s.h) D C o;obtain⟨z,G⟩:=Ex hs hv F le m (λp u=>r p (.inl u));have gl:=z.length;refine⟨a.eval o::vs, ?_,⟨_,_,rfl,d,z,e2⟩, ?_⟩
   .simp only [VN,List.zipIdx_cons,E]
   .intro v f;rcases Vk.1 f with rfl | f
    .rw [<-VG,gl,d]
    .exact e3 v f
  .simp at b
theorem Hh{e:TypeId}{ev:Operand->AV}:∀{b:List (Nat×Operand)} {n:Nat} {q:List (List T)×aH},iY P h e ev n b=some q->iE h q.2/\q.1.length=b.length
 | [],n,q,a=>by simp only [iY,U5] at a;subst a;exact⟨(λp g=>by cases g),rfl⟩
 | (k,o)::b,n,q,a=>by
  simp only [iY] at a;obtain⟨l,i,a⟩:=U6.1 a;split at a
  .obtain⟨j,d,a⟩:=U6.1 a;simp only [U5] at a;subst a;obtain⟨f,e2⟩:=Hh d;exact⟨(CX _).append f,by simp [e2]⟩
  .simp at a
theorem Eg{t e:TypeId}{n:Nat}(p:P.underlying t=some (.slice e))(k:bV P e=true)(hz:(jX P e).isSome=true)(b: 0 < P.cellsOf e)(hb:n<=1000/\P.cellsOf e<=1000)(vs:List Value)(hv:∀v∈vs,v.cells.size=P.cellsOf e)(g:vs.length=n)
  (m:Array (Nat×Value)) (a:m.toList= (vs.zipIdx 0).map λx=>(x.2,x.1)):
  (Instr.buildSlice t n m).run P w= .ok (.slice (some ⟨w.heap.size,0,none⟩) n n) (w.alloc (.cells (vs.flatMap λv=>v.cells.toList).toArray e)):=by
 obtain⟨z,hz⟩:=Xj.1 hz;obtain⟨i,zv,hi,l,_⟩:=ow hz;have q:n * P.cellsOf e<=1000 * 1000:=YI hb.1 hb.2;have h1:¬(n * P.cellsOf e > 2 ^ 24):=by
  have f:(2:Nat) ^ 24=16777216:=by decide
  rw [f];omega
 have o:=Go.Great.fill_whole b vs;unfold Instr.buildSlice;simp only [Vy,run_underlying p,Vi,jz k,if_neg h1,Sem.run_ite];by_cases d:n * P.cellsOf e=0
 .have j:n=0:=by rcases Nat.mul_eq_zero.1 d with e | e <;> omega
  subst j;have:vs= []:=Vq.1 g;subst this;simp only [Nat.zero_mul,if_true,VK,Vi];simp only [List.zipIdx_nil,XA] at a;simp [a,Instr.fill,newRow,Array.range_zero']
 .simp only [if_neg d,Vy,zeroValue,typeInfo,run_program,Vi,hi,VK,l];rw [a,o _ hv (by simp [g])];simp [newRow]
theorem Kn{t e:TypeId}{a:List T}{n m:Int}{kn km:IntKind}(p:P.underlying t=some (.slice e))(hz:jX P e=some a)(hb:P.bytesOf e<=8192)(o:a.length=P.cellsOf e)(l: 0<=n)(h1:n<=m)(b:m<=du):
  ∃zv:Value,aT w A a zv.cells.toList/\(Instr.makeSlice t (.int kn n) (.int km m)).run P w= .ok (.slice (some ⟨w.heap.size,0,none⟩) n.toNat m.toNat) (w.alloc (.cells (madeCells zv.cells (m.toNat * P.cellsOf e)) e)):=by
 obtain⟨i,zv,hi,j,f⟩:=ow hz;have g:P.cellsOf e=i.size:=by simp [Program.cellsOf,hi]
 have d:P.bytesOf e=i.bytes:=by simp [Program.bytesOf,hi]
 refine⟨zv,pa f, ?_⟩;rw [g];refine run_make w t e i zv p hi j kn km n m l h1 ?_ ?_
 .rw [d] at hb;have:(i.bytes:Int) * m<=8192 * 4294967296:=by
   have k:(i.bytes:Int)<=8192:=by omega
   have e2:m<=4294967296:=by simpa [du] using b
   calc (i.bytes:Int) * m<=8192 * m:=Vz k (by omega)
    _<=8192 * 4294967296:=Vg e2 (by omega)
  omega
 .have e2:m<=4294967296:=by simpa [du] using b
  omega
theorem Dj{zv:Array Value}{sz:Nat}(hz:zv.size=sz)(n m:Nat)(g:n<=m):∀(p:Nat) (v:Value),(List.replicate n zv.toList).flatten[p]? =some v->(madeCells zv (m * sz))[p]? =some v:=by
 intro p v a;have b:p < n * sz:=by have:=(Vh.1 a).1;simpa [hz] using this
 have f: 0 < sz:=by
  rcases Nat.eq_zero_or_pos sz with e | e
  .rw [e] at b;simp at b
  .exact e
 have hm:n * sz<=m * sz:=Wj _ g;have key:∀n p,p < n * sz->(List.replicate n zv.toList).flatten[p]? =zv[p % sz]?:=by
  intro n;induction n with
  | zero=>intro p h;simp at h
  | succ n i=>
   intro p h;rw [VX,Xq];by_cases a:p < sz
   .rw [WH (by simpa [hz] using a),X3 a];simp
   .rw [Wo (by simp [hz];omega)];simp only [VG,hz];have e2:(n+1) * sz=n * sz+sz:=Wn _ _;rw [i _ (by omega)];congr 1;exact(Nat.mod_eq_sub_mod (by omega)).symm
 rw [key n p b] at a;have d:p % sz < zv.size:=by rw [hz];exact Yo _ f
 simp only [madeCells,Array.getElem?_map];rw [Xx (by simp;omega)];simp only [Array.getElem_range,Xg,hz];rw [Xx d] at a;rw [getElem!_pos zv _ d];exact a
theorem cF.replicate{sz:Nat}{a:List T}{vs:List Value}(d:aT w A a vs)(b:a.length=sz):∀n,cF w A sz (List.replicate n a) (List.replicate n vs)
 | 0=>rfl
 | n+1=>⟨vs,List.replicate n vs,rfl,b,d,cF.replicate d b n⟩
end
end Go.Aev
