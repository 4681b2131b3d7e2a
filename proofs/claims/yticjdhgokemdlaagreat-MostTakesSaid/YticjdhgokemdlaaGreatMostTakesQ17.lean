import Derived.Test.YticjdhgokemdlaaGreatMostTakesQ16
set_option linter.unusedSimpArgs false
set_option linter.unusedVariables false
namespace Go.Aev.Wd.Lg
open Go Go.Aev Go.Aev.Gen Go.Aev.Wd Go.Aev.Tb
section
variable {n:Nat} {rows:List R} (f:Fl) (t:TL)
end
def mxL(n:Nat)(rows:List R)(v:Nat)(way:Int)(t:TL):TL:=
 if(bD n rows t v way).1>=0 then
  pvL (bD n rows t v way).1.toNat v (t.st.bas (bD n rows t v way).1.toNat) (prF (cAt t.cel (bD n rows t v way).1.toNat) v (t.st.bas (bD n rows t v way).1.toNat)) false (mvL v (dB (bD n rows t v way).2.1 (iN way)) t)
 else mvL v (dB (bD n rows t v way).2.1 (iN way)) t
section
variable {n:Nat} {rows:List R} (f:Fl) (t:TL)
end
section
variable {n:Nat} {rows:List R} (f:Fl) (t:TL)
end
open Go Go.Aev Go.Aev.Gen Go.Aev.Wd Go.Aev.Tb
def gR(gl:List Int)(k:Nat):Rat:=((gl.getD k 0:Int):Rat)
structure TGok (n:Nat) (rows:List R) (gl:List Int) (t:TL):Prop where
 tok:TOk n rows t
 len:t.gol.length=n+rows.length
 g:(aj n rows).GOK (gR gl) t.st (fun v=>nv (nAt t.gol v))
 fe:(aj n rows).Feas t.st
structure xE (n:Nat) (rows:List R) (gl:List Int):Prop where
 ro:jN n rows
 k2:∀r∈rows,r.kd≠2
 gb:∀c∈gl, -1000000<=c/\c<=1000000
 gl:gl.length<=n
theorem TGok.nb{n:Nat}{rows:List R}{gl:List Int}{t:TL}(h:TGok n rows gl t){v:Nat}(hv:nv (nAt t.gol v)≠0):v∉t.bas:=by
 intro hb
 obtain⟨j,hj,e,_⟩:=gP h.tok.shp hb
 exact hv (by rw [<-e];exact h.g.z j hj)
theorem z0{n:Nat}{rows:List R}{t:TL}(h:TOk n rows t)(k2:∀r∈rows,r.kd≠2){v:Nat}(hv:v < n+rows.length):t.st.z v=0:=by
 have hn:∀u,u < n+rows.length->(∀i,i < rows.length->t.st.bas i≠u)->t.st.z u=0:=fun u hu hb=>by
  have:=congrArg Prod.snd (h.ok.fix u hu hb)
  show(t.st.val u).2=0
  rw [this]
  unfold Sy.fx
  show(if u < n then((0:Rat),(0:Rat)) else(aj n rows).up u).2=0
  by_cases hun:u < n
  ·rw [if_pos hun]
  ·rw [if_neg hun]
   have hk:=k2 _ (im (rows:=rows) (i:=u - n) (by omega))
   unfold Sy.up
   exact if_neg hk
 by_cases hb:∃i,i < rows.length/\t.st.bas i=v
 ·obtain⟨i,hi,e⟩:=hb
  have:=(h.ok.wf.same _).2 h.ok.hz i hi
  rw [<-e,this]
  refine li (fun k hk=> ?_)
  by_cases hbk:∃j,j < rows.length/\t.st.bas j=k
  ·obtain⟨j,hj,e'⟩:=hbk
   have hz:t.st.c i k=0:=by rw [<-e'];exact h.ok.wf.z i j hi hj
   rw [hz,Rat.zero_mul]
  ·rw [hn k hk (fun j hj e'=>hbk ⟨j,hj,e'⟩),Rat.mul_zero]
 ·exact hn v hv (fun j hj e'=>hb ⟨j,hj,e'⟩)
def Bnd(n:Nat)(rows:List R)(t:TL)(v:Nat)(way:Int)(j:Nat):Prop:=
 n<=t.st.bas j/\(0 < t.st.c j v * (way:Rat)\/t.st.c j v * (way:Rat) < 0/\(aj n rows).kd (t.st.bas j - n)=3)
def rto(n:Nat)(rows:List R)(t:TL)(v:Nat)(way:Int)(j:Nat):Rat:=((aj n rows).to (t.st.bas j - n) - t.st.y (t.st.bas j)) / (t.st.c j v * (way:Rat))
theorem bd_iff{n:Nat}{rows:List R}{t:TL}{v:Nat}{way:Int}{j:Nat}:¬(nv (tm (nAt (cAt t.cel j) v) (iN way))=0\/bdB n rows (t.st.bas j) (tm (nAt (cAt t.cel j) v) (iN way))=false)↔Bnd n rows t v way j:=by
 have e:nv (tm (nAt (cAt t.cel j) v) (iN way))=t.st.c j v * (way:Rat):=rfl
 unfold bdB Bnd
 rw [e]
 by_cases hneg:t.st.c j v * (way:Rat) < 0
 ·rw [if_pos hneg]
  constructor
  ·intro h
   have hlo:loB n rows (t.st.bas j)=true:=by
    cases hb:loB n rows (t.st.bas j)
    ·exact absurd (.inr hb) h
    ·rfl
   have:=loB_iff.1 hlo
   exact⟨Nat.le_of_not_lt this.1, .inr ⟨hneg,this.2⟩⟩
  ·rintro⟨h1,h2 | ⟨_,h2⟩⟩
   ·exact absurd hneg (by grind)
   ·rintro(h3 | h3)
    ·rw [h3] at hneg;exact absurd hneg (by grind)
    ·rw [loB_iff.2 ⟨Nat.not_lt.2 h1,h2⟩] at h3;cases h3
 ·rw [if_neg hneg]
  constructor
  ·intro h
   have h0:t.st.c j v * (way:Rat)≠0:=fun h'=>h (.inl h')
   have hb:¬t.st.bas j < n:=fun h'=>h (.inr (by simp [h']))
   exact⟨Nat.le_of_not_lt hb, .inl (by grind)⟩
  ·rintro⟨h1,h2 | ⟨h2,_⟩⟩
   ·rintro(h3 | h3)
    ·rw [h3] at h2;exact absurd h2 (by grind)
    ·have:¬t.st.bas j < n:=Nat.not_lt.2 h1
     simp [this] at h3
   ·exact absurd h2 hneg
theorem po{n:Nat}{rows:List R}{t:TL}(h:TOk n rows t)(k2:∀r∈rows,r.kd≠2){v:Nat}{way:Int}{j:Nat}(hj:j < rows.length)(hb:Bnd n rows t v way j):
  vv (dsV n rows t (t.st.bas j) (tm (nAt (cAt t.cel j) v) (iN way)))= (rto n rows t v way j,0):=by
 have e:nv (tm (nAt (cAt t.cel j) v) (iN way))=t.st.c j v * (way:Rat):=rfl
 have hbn:¬t.st.bas j < n:=Nat.not_lt.2 hb.1
 have hbN:t.st.bas j < n+rows.length:=h.ok.wf.hb j hj
 have hz:=z0 h k2 hbN
 have hk:=k2 _ (im (rows:=rows) (i:=t.st.bas j - n) (by omega))
 have hup:(aj n rows).up (t.st.bas j)= ((aj n rows).to (t.st.bas j - n),0):=by
  unfold Sy.up
  refine Prod.ext rfl ?_
  exact if_neg hk
 have hbd:vv (bdV n rows (t.st.bas j) (tm (nAt (cAt t.cel j) v) (iN way)))= ((aj n rows).to (t.st.bas j - n),0):=by
  unfold bdV
  rw [e,<-hup]
  by_cases hneg:t.st.c j v * (way:Rat) < 0
  ·rw [if_pos hneg]
   rcases hb.2 with h2 | ⟨_,h2⟩
   ·exact absurd hneg (by grind)
   ·exact ry (loB_iff.2 ⟨hbn,h2⟩)
  ·rw [if_neg hneg]
   exact o6 hbn
 unfold dsV
 generalize bdV n rows (t.st.bas j) (tm (nAt (cAt t.cel j) v) (iN way))=bd at hbd
 have h1:nv bd.1= (aj n rows).to (t.st.bas j - n):=congrArg Prod.fst hbd
 have h2:nv bd.2=0:=congrArg Prod.snd hbd
 have h3:nv (vAt t.val (t.st.bas j)).2=0:=hz
 refine Prod.ext ?_ ?_
 ·show(nv bd.1 - t.st.y (t.st.bas j)) * (((1:Int):Rat) / (t.st.c j v * (way:Rat)))=rto n rows t v way j
  unfold rto
  rw [h1,Rat.div_def,Rat.div_def]
  have:((1:Int):Rat)=1:=rfl
  rw [this];grind
 ·show(nv bd.2 - nv (vAt t.val (t.st.bas j)).2) * (((1:Int):Rat) / (t.st.c j v * (way:Rat)))=0
  rw [h2,h3];grind
theorem DX{n:Nat}{rows:List R}{t:TL}(h:TOk n rows t)(k2:∀r∈rows,r.kd≠2){v:Nat}{way:Int}(hself:bdB n rows v (iN way)=false):
  ((bD n rows t v way).2.2=false/\∀j,j < rows.length->¬Bnd n rows t v way j)\/
  ∃i,i < rows.length/\(bD n rows t v way).1= (i:Int)/\(bD n rows t v way).2.2=true/\Bnd n rows t v way i/\(bD n rows t v way).2.1=dsV n rows t (t.st.bas i) (tm (nAt (cAt t.cel i) v) (iN way))/\
   ∀j,j < rows.length->Bnd n rows t v way j->rto n rows t v way i<=rto n rows t v way j/\(rto n rows t v way i=rto n rows t v way j->t.st.bas i<=t.st.bas j):=by
 have hbl:=h.shp.b
 have hcl:=h.shp.c
 have gen:∀(bs:List Nat) (xs:List (List Nm)) (k:Nat) (s:LF),t.bas.drop k=bs->t.cel.drop k=xs->bs.length=xs.length->k<=rows.length->
   ((s.2.2=false/\∀j,j < k->¬Bnd n rows t v way j)\/
    ∃i,i < k/\s.1= (i:Int)/\s.2.2=true/\Bnd n rows t v way i/\s.2.1=dsV n rows t (t.st.bas i) (tm (nAt (cAt t.cel i) v) (iN way))/\
     ∀j,j < k->Bnd n rows t v way j->rto n rows t v way i<=rto n rows t v way j/\(rto n rows t v way i=rto n rows t v way j->t.st.bas i<=t.st.bas j))->
   (((lmF n rows t v way bs xs k s).2.2=false/\∀j,j < rows.length->¬Bnd n rows t v way j)\/
    ∃i,i < rows.length/\(lmF n rows t v way bs xs k s).1= (i:Int)/\(lmF n rows t v way bs xs k s).2.2=true/\Bnd n rows t v way i/\(lmF n rows t v way bs xs k s).2.1=dsV n rows t (t.st.bas i) (tm (nAt (cAt t.cel i) v) (iN way))/\
     ∀j,j < rows.length->Bnd n rows t v way j->rto n rows t v way i<=rto n rows t v way j/\(rto n rows t v way i=rto n rows t v way j->t.st.bas i<=t.st.bas j)):=by
  intro bs
  induction bs with
  | nil=>
   intro xs k s hb hx hl hk hP
   have hkm:k=rows.length:=by have:=ax hb;omega
   have hm0:lmF n rows t v way [] xs k s=s:=by cases xs <;> rfl
   rw [hm0,<-hkm];exact hP
  | cons b bs ih=>
   intro xs k s hb hx hl hk hP
   obtain⟨g1,g2,g3⟩:=ar hb
   cases xs with
   | nil=>simp at hl
   | cons x xs=>
    obtain⟨x1,x2,x3⟩:=ar hx
    have hcx:cAt t.cel k=x:=by
     have:=vh (cel:=t.cel) (i:=k) (by omega)
     rw [x1] at this
     exact(Option.some.inj this).symm
    have hbx:t.st.bas k=b:=by
     have:=gS (t:=t) (i:=k) (by omega)
     rw [g1] at this
     exact(Option.some.inj this).symm
    rw [lmF,<-hcx,<-hbx]
    refine ih xs (k+1) _ g3 x3 (by simpa using hl) (by omega) ?_
    by_cases hBk:Bnd n rows t v way k
    ·have hz:=bd_iff.2 hBk
     have hdk:=po h k2 (by omega) hBk
     have hcs:csF n rows t (t.st.bas k) (tm (nAt (cAt t.cel k) v) (iN way)) (k:Int) s=if csT n rows t (t.st.bas k) (tm (nAt (cAt t.cel k) v) (iN way)) (k:Int) s then((k:Int),dsV n rows t (t.st.bas k) (tm (nAt (cAt t.cel k) v) (iN way)),true) else s:=by
      unfold csF;rw [if_neg hz]
     rw [hcs]
     rcases hP with⟨hf,hno⟩ | ⟨i,hik,hi1,hi2,hi3,hi4,hi5⟩
     ·have hT:csT n rows t (t.st.bas k) (tm (nAt (cAt t.cel k) v) (iN way)) (k:Int) s:=by
       unfold csT;rw [hf];exact .inl (by simp)
      rw [if_pos hT]
      refine .inr ⟨k,by omega,rfl,rfl,hBk,rfl,fun j hj hBj=> ?_⟩
      by_cases hjk:j=k
      ·subst hjk;exact⟨Rat.le_refl,fun _=>Nat.le_refl _⟩
      ·exact absurd hBj (hno j (by omega))
     ·have hdi:=po h k2 (by omega) hi3
      have hgt:c7 s.2.1 (dsV n rows t (t.st.bas k) (tm (nAt (cAt t.cel k) v) (iN way))) > 0↔rto n rows t v way k < rto n rows t v way i:=by
       rw [wu,hdk,hi4,hdi]
       unfold vlt
       constructor
       ·rintro(h | ⟨_,h⟩)
        ·exact h
        ·exact absurd h (by grind)
       ·intro h;exact .inl h
      have hlt:c7 s.2.1 (dsV n rows t (t.st.bas k) (tm (nAt (cAt t.cel k) v) (iN way))) < 0↔rto n rows t v way i < rto n rows t v way k:=by
       rw [se,hdk,hi4,hdi]
       unfold vlt
       constructor
       ·rintro(h | ⟨_,h⟩)
        ·exact h
        ·exact absurd h (by grind)
       ·intro h;exact .inl h
      have heq:c7 s.2.1 (dsV n rows t (t.st.bas k) (tm (nAt (cAt t.cel k) v) (iN way)))=0↔rto n rows t v way i=rto n rows t v way k:=by
       constructor
       ·intro h0
        have a:¬rto n rows t v way k < rto n rows t v way i:=fun h'=>by have:=hgt.2 h';omega
        have b:¬rto n rows t v way i < rto n rows t v way k:=fun h'=>by have:=hlt.2 h';omega
        grind
       ·intro h0
        have a:¬c7 s.2.1 (dsV n rows t (t.st.bas k) (tm (nAt (cAt t.cel k) v) (iN way))) > 0:=fun h'=>by have:=hgt.1 h';grind
        have b:¬c7 s.2.1 (dsV n rows t (t.st.bas k) (tm (nAt (cAt t.cel k) v) (iN way))) < 0:=fun h'=>by have:=hlt.1 h';grind
        omega
      by_cases hT:csT n rows t (t.st.bas k) (tm (nAt (cAt t.cel k) v) (iN way)) (k:Int) s
      ·rw [if_pos hT]
       have hT':=hT
       unfold csT at hT'
       rw [if_pos hi2,hi1,Int.toNat_natCast,hgt,heq] at hT'
       have hbi:t.bas.getD i 0=t.st.bas i:=rfl
       rw [hbi] at hT'
       refine .inr ⟨k,by omega,rfl,rfl,hBk,rfl,fun j hj hBj=> ?_⟩
       by_cases hjk:j=k
       ·subst hjk;exact⟨Rat.le_refl,fun _=>Nat.le_refl _⟩
       ·obtain⟨c1,c2⟩:=hi5 j (by omega) hBj
        rcases hT' with h1 | ⟨h1,_,h2 | h2⟩
        ·exact⟨by grind,fun h3=>absurd h1 (by grind)⟩
        ·omega
        ·exact⟨by grind,fun h3=>by have:=c2 (by grind);omega⟩
      ·rw [if_neg hT]
       have hT':=hT
       unfold csT at hT'
       rw [if_pos hi2,hi1,Int.toNat_natCast,hgt,heq] at hT'
       have hbi:t.bas.getD i 0=t.st.bas i:=rfl
       rw [hbi] at hT'
       refine .inr ⟨i,by omega,hi1,hi2,hi3,hi4,fun j hj hBj=> ?_⟩
       by_cases hjk:j=k
       ·subst hjk
        refine⟨Rat.not_lt.1 fun h'=>hT' (.inl h'),fun h3=> ?_⟩
        refine Nat.le_of_not_lt fun h'=>hT' (.inr ⟨h3,by omega, .inr (by omega)⟩)
       ·exact hi5 j (by omega) hBj
    ·have hz:nv (tm (nAt (cAt t.cel k) v) (iN way))=0\/bdB n rows (t.st.bas k) (tm (nAt (cAt t.cel k) v) (iN way))=false:=Classical.byContradiction fun h'=>hBk (bd_iff.1 h')
     have hcs:csF n rows t (t.st.bas k) (tm (nAt (cAt t.cel k) v) (iN way)) (k:Int) s=s:=by unfold csF;rw [if_pos hz]
     rw [hcs]
     rcases hP with⟨hf,hno⟩ | ⟨i,hik,hi1,hi2,hi3,hi4,hi5⟩
     ·refine .inl ⟨hf,fun j hj=> ?_⟩
      by_cases hjk:j=k
      ·subst hjk;exact hBk
      ·exact hno j (by omega)
     ·refine .inr ⟨i,by omega,hi1,hi2,hi3,hi4,fun j hj hBj=> ?_⟩
      by_cases hjk:j=k
      ·subst hjk;exact absurd hBj hBk
      ·exact hi5 j (by omega) hBj
 have h0:csF n rows t v (iN way) (-1) (-1,(none,none),false)= (-1,(none,none),false):=by unfold csF;rw [if_pos (.inr hself)]
 unfold bD
 rw [h0]
 exact gen t.bas t.cel 0 _ rfl rfl (by omega) (Nat.zero_le _) (.inl ⟨rfl,fun j hj=>by omega⟩)
open Go Go.Aev Go.Aev.Gen Go.Aev.Wd Go.Aev.Tb
theorem TOk.gol{n:Nat}{rows:List R}{t:TL}(h:TOk n rows t)(g:List Nm):TOk n rows {t with gol:=g}:=
 ⟨⟨h.shp.b,h.shp.c,h.shp.r,h.shp.v,h.shp.lt,h.shp.nd⟩,h.ok,h.ln,h.ln0,h.ky⟩
theorem zg{q:Rat}(hq:q≠0):((q.num.sign:Int):Rat)=sgR q:=by
 unfold sgR
 have h1:=wg (w:=1) (.inl rfl) hq
 have h2:(1:Int) * q.num.sign > 0↔0 < q:=by
  rw [h1.2]
  have:((1:Int):Rat)=1:=rfl
  rw [this,Rat.one_mul]
 rw [Int.one_mul] at h2
 rcases ms q with e | e | e
 ·rw [e,if_pos (h2.1 (by rw [e];decide))];rfl
 ·rw [e,if_neg (fun h=>by have:=h2.2 h;rw [e] at this;exact absurd this (by decide))];rfl
 ·exact absurd ((kX q).1 e) hq
theorem yE{q:Rat}(hq:q≠0):q.num.sign=1\/q.num.sign= -1:=by
 rcases ms q with e | e | e
 ·exact .inl e
 ·exact .inr e
 ·exact absurd ((kX q).1 e) hq
section
variable {n:Nat} {rows:List R} {gl:List Int} {t:TL}
theorem TGok.self(go:xE n rows gl)(h:TGok n rows gl t){v:Nat}(hv:v < n+rows.length)(hne:nv (nAt t.gol v)≠0)(hcan:d7 n rows t.val v (nv (nAt t.gol v)).num.sign=true):
  bdB n rows v (iN (nv (nAt t.gol v)).num.sign)=false:=by
 have hvb:=h.nb hne
 have hfx:=h.tok.ok.fix v hv (fun i hi e=>hvb (by rw [<-e];exact eM h.tok.shp hi))
 have hw:=yE hne
 have hw0:(nv (nAt t.gol v)).num.sign≠0:=by rcases hw with e | e <;> rw [e] <;> decide
 rw [pk t v hw0] at hcan
 unfold bdB
 rcases hw with e | e
 ·rw [e] at hcan⊢
  rw [if_pos (by decide)] at hcan
  have h1:¬nv (iN 1) < 0:=by
   show ¬((1:Int):Rat) < 0
   have:((1:Int):Rat)=1:=rfl
   rw [this];grind
  rw [if_neg h1]
  rcases hcan with hc | hc
  ·have hc:v < n:=hc
   simp [hc]
  ·by_cases hvn:v < n
   ·simp [hvn]
   ·unfold Sy.fx at hfx
    have hvn':¬v < (aj n rows).n:=hvn
    rw [if_neg hvn'] at hfx
    rw [hfx] at hc
    exact absurd hc (od _)
 ·rw [e] at hcan⊢
  rw [if_neg (by decide)] at hcan
  have h1:nv (iN (-1)) < 0:=by
   show((-1:Int):Rat) < 0
   have:((-1:Int):Rat)= -1:=rfl
   rw [this];grind
  rw [if_pos h1]
  cases hlo:loB n rows v
  ·rfl
  ·have h2:=loB_iff.1 hlo
   rcases hcan with hc | hc | hc
   ·exact absurd hc h2.1
   ·exact absurd h2.2 hc
   ·unfold Sy.fx at hfx
    have hvn':¬v < (aj n rows).n:=h2.1
    rw [if_neg hvn'] at hfx
    rw [hfx] at hc
    exact absurd hc (od _)
theorem vC(h:TOk n rows t)(k2:∀r∈rows,r.kd≠2){u:Nat}(hu:u < n+rows.length){q:Rat}(hq:q≠0):
  d7 n rows t.val u (1 * q.num.sign)=true↔(aj n rows).Can2 t.st q u:=by
 have h1:=rU (n:=n) (rows:=rows) t (w:=1) (.inl rfl) hq (v:=u)
 have e1:((1:Int):Rat) * q=q:=by
  have:((1:Int):Rat)=1:=rfl
  rw [this,Rat.one_mul]
 rw [e1] at h1
 rw [h1]
 have hz:=z0 h k2 hu
 have up:(aj n rows).CanUp t.st u↔(aj n rows).Up2 t.st u:=by
  unfold Sy.CanUp Sy.Up2
  by_cases hun:u < n
  ·exact⟨fun _=> .inl hun,fun _=> .inl hun⟩
  ·have hk:=k2 _ (im (rows:=rows) (i:=u - n) (by omega))
   have hup:(aj n rows).up u= ((aj n rows).to (u - n),0):=Prod.ext rfl (if_neg hk)
   rw [hup]
   unfold vlt Stt.val
   rw [hz]
   constructor
   ·rintro(h' | h' | ⟨_,h'⟩)
    ·exact .inl h'
    ·exact .inr h'
    ·exact absurd h' (by grind)
   ·rintro(h' | h')
    ·exact .inl h'
    ·exact .inr (.inl h')
 have dn:(aj n rows).CanDn t.st u↔(aj n rows).Dn2 t.st u:=by
  unfold Sy.CanDn Sy.Dn2
  by_cases hun:u < n
  ·exact⟨fun _=> .inl hun,fun _=> .inl hun⟩
  ·have hk:=k2 _ (im (rows:=rows) (i:=u - n) (by omega))
   have hup:(aj n rows).up u= ((aj n rows).to (u - n),0):=Prod.ext rfl (if_neg hk)
   rw [hup]
   unfold vlt Stt.val
   rw [hz]
   constructor
   ·rintro(h' | h' | h' | ⟨_,h'⟩)
    ·exact .inl h'
    ·exact .inr (.inl h')
    ·exact .inr (.inr h')
    ·exact absurd h' (by grind)
   ·rintro(h' | h' | h')
    ·exact .inl h'
    ·exact .inr (.inl h')
    ·exact .inr (.inr (.inl h'))
 unfold Sy.Can Sy.Can2
 rw [up,dn]
theorem TGok.step(go:xE n rows gl)(h:TGok n rows gl t){v:Nat}(hen:enF n rows t.val 1 t.gol 0=some v)(hfd:(bD n rows t v (nv (nAt t.gol v)).num.sign).2.2=true):
  TGok n rows gl (mxL n rows v (nv (nAt t.gol v)).num.sign t)/\∃i,(aj n rows).Step2 t.st (fun u=>nv (nAt t.gol u)) (mxL n rows v (nv (nAt t.gol v)).num.sign t).st i v:=by
 obtain⟨_,e2,e3,e4,e5⟩:=qI hen
 rw [Nat.sub_zero] at e3 e4
 rw [Int.one_mul] at e4
 rw [Nat.zero_add,h.len] at e2
 have hself:=h.self go e2 e3 e4
 have hvb:=h.nb e3
 have hvB:¬t.st.Bas rows.length v:=fun⟨i,hi,e⟩=>hvb (by rw [<-e];exact eM h.tok.shp hi)
 have hw:=yE e3
 have hsw:=zg e3
 generalize hwv:(nv (nAt t.gol v)).num.sign=way at *
 have hwne:(way:Rat)≠0:=by
  rcases hw with rfl | rfl
  ·have:((1:Int):Rat)=1:=rfl
   rw [this];grind
  ·have:((-1:Int):Rat)= -1:=rfl
   rw [this];grind
 rcases DX h.tok go.k2 (v:=v) (way:=way) hself with⟨hf,_⟩ | ⟨i,hi,l1,l2,l3,l4,l5⟩
 ·rw [hf] at hfd;cases hfd
 ·have hd0:t.st.c i v * (way:Rat)≠0:=by
   rcases l3.2 with h' | ⟨h',_⟩
   ·intro h0;rw [h0] at h';exact absurd h' (by grind)
   ·intro h0;rw [h0] at h';exact absurd h' (by grind)
  have hc0:nv (nAt (cAt t.cel i) v)≠0:=fun h0=>hd0 (by
   show nv (nAt (cAt t.cel i) v) * (way:Rat)=0
   rw [h0,Rat.zero_mul])
  have hbn:=l3.1
  have hbN:t.st.bas i < n+rows.length:=h.tok.ok.wf.hb i hi
  have hg:=gS (t:=t) (i:=i) (by rw [h.tok.shp.b];exact hi)
  have hfar:=po h.tok go.k2 hi l3
  rw [<-l4] at hfar
  have hfy:nv (bD n rows t v way).2.1.1=rto n rows t v way i:=congrArg Prod.fst hfar
  have hfz:nv (bD n rows t v way).2.1.2=0:=congrArg Prod.snd hfar
  have hmx:mxL n rows v way t=pvL i v (t.st.bas i) (prF (cAt t.cel i) v (t.st.bas i)) false (mvL v (dB (bD n rows t v way).2.1 (iN way)) t):=by
   unfold mxL
   rw [l1,if_pos (by omega),Int.toNat_natCast]
  have hk:=go.k2 _ (im (rows:=rows) (i:=t.st.bas i - n) (by omega))
  have hfx:(aj n rows).fx (t.st.bas i)= ((aj n rows).to (t.st.bas i - n),0):=by
   unfold Sy.fx
   have hn':¬t.st.bas i < (aj n rows).n:=Nat.not_lt.2 hbn
   rw [if_neg hn']
   unfold Sy.up
   refine Prod.ext rfl ?_
   exact if_neg hk
  have hval:vv (vAt (mvL v (dB (bD n rows t v way).2.1 (iN way)) t).val (t.st.bas i))= (aj n rows).fx (t.st.bas i):=by
   rw [mB h.tok.shp v _ e2 hvb hg,hfx]
   have hz:=z0 h.tok go.k2 hbN
   refine Prod.ext ?_ ?_
   ·show t.st.y (t.st.bas i)+nv (bD n rows t v way).2.1.1 * (way:Rat) * t.st.c i v= (aj n rows).to (t.st.bas i - n)
    rw [hfy]
    unfold rto
    rw [Rat.div_def]
    have:=Rat.mul_inv_cancel _ hd0
    grind
   ·show t.st.z (t.st.bas i)+nv (bD n rows t v way).2.1.2 * (way:Rat) * t.st.c i v=0
    rw [hfz,hz];grind
  obtain⟨p1,p2⟩:=h.tok.pivot (i:=i) (v:=v) (dB (bD n rows t v way).2.1 (iN way)) false hi e2 hc0 hval
  have hgolE:(mxL n rows v way t).gol=gh (prF (cAt t.cel i) v (t.st.bas i)) v t.gol:=by rw [hmx];rfl
  rw [<-hmx] at p1 p2
  have hbv:t.st.bas i≠v:=fun e=>hvb (by rw [<-e];exact eM h.tok.shp hi)
  have hrow:=h.tok.shp.row hi
  have hpl:(prF (cAt t.cel i) v (t.st.bas i)).length=n+rows.length:=by unfold prF;simp;exact hrow
  have hpr:∀k,k < n+rows.length->nv (nAt (prF (cAt t.cel i) v (t.st.bas i)) k)=bT (t.st.c i) (t.st.bas i) v k:=fun k hk=>xk (by omega) (by omega) (by omega) hbv
  have hgat:∀k,k < n+rows.length->nv (nAt (mxL n rows v way t).gol k)=cT (bT (t.st.c i) (t.st.bas i) v) v (fun u=>nv (nAt t.gol u)) k:=fun k hk=>by
   rw [hgolE,uu (by rw [hpl,h.len]) (by rw [h.len];exact e2) (by rw [h.len];exact hk) (by rw [hpr v e2];exact lJ hbv)]
   unfold cT
   by_cases hkv:k=v
   ·rw [if_pos hkv,if_pos hkv]
   ·rw [if_neg hkv,if_neg hkv]
    show _+ _ * nv (nAt (prF (cAt t.cel i) v (t.st.bas i)) k)=_
    rw [hpr k hk]
  have hy':∀k,k < n+rows.length->(mxL n rows v way t).st.y k=t.st.y k+rto n rows t v way i * t.st.dir rows.length v (way:Rat) k:=by
   intro k hk
   have e:(mxL n rows v way t).st.y k=nv (vAt (mvL v (dB (bD n rows t v way).2.1 (iN way)) t).val k).1:=by rw [hmx];rfl
   rw [e]
   by_cases hkb:k∈t.bas
   ·obtain⟨j,hj,e,hgj⟩:=gP h.tok.shp hkb
    have dirb:t.st.dir rows.length v (way:Rat) (t.st.bas j)=t.st.c j v * (way:Rat):=wc (S:=aj n rows) h.tok.ok (way:Rat) hj hvB
    rw [mB h.tok.shp v _ e2 hvb hgj,<-e,dirb]
    show t.st.y (t.st.bas j)+nv (bD n rows t v way).2.1.1 * (way:Rat) * t.st.c j v=_
    rw [hfy];grind
   ·rw [pS h.tok.shp v _ e2 hkb]
    by_cases hkv:k=v
    ·rw [if_pos hkv,hkv,sX]
     show t.st.y v+nv (bD n rows t v way).2.1.1 * (way:Rat)=_
     rw [hfy]
    ·rw [if_neg hkv,uw t.st (way:Rat) hkv (fun⟨j,hj,e⟩=>hkb (by rw [<-e];exact eM h.tok.shp hj)),Rat.mul_zero,Rat.add_zero]
     rfl
  have hfar0: 0<=rto n rows t v way i:=by
   obtain⟨f1,f2⟩:=h.fe _ hbn hbN
   unfold rto
   refine zo ?_
   rcases l3.2 with h' | ⟨_,h'⟩
   ·refine .inl ⟨h', ?_⟩
    have:t.st.y (t.st.bas i)<=(aj n rows).to (t.st.bas i - n):=f1
    grind
   ·refine .inr ?_
    have:t.st.y (t.st.bas i)= (aj n rows).to (t.st.bas i - n):=f2 h'
    grind
  refine⟨⟨p1, ?_,⟨fun j hj=> ?_,fun y hy=> ?_⟩,fun u hun huN=> ?_⟩,i, ?_⟩
  ·rw [hgolE,uR];exact h.len
  ·have hbj:(mxL n rows v way t).st.bas j < n+rows.length:=p1.ok.wf.hb j hj
   show nv (nAt (mxL n rows v way t).gol ((mxL n rows v way t).st.bas j))=0
   rw [hgat _ hbj,p2 j]
   unfold cT bV
   by_cases hji:j=i
   ·rw [if_pos hji,if_pos rfl]
   ·rw [if_neg hji]
    have hne:t.st.bas j≠v:=fun e=>hvb (by rw [<-e];exact eM h.tok.shp hj)
    have hne2:t.st.bas j≠t.st.bas i:=fun e=>hji (h.tok.ok.wf.inj j i hj hi e)
    rw [if_neg hne]
    have h1:nv (nAt t.gol (t.st.bas j))=0:=h.g.z j hj
    have h2:bT (t.st.c i) (t.st.bas i) v (t.st.bas j)=0:=by
     unfold bT
     rw [if_neg hne2,if_neg hne,h.tok.ok.wf.z i j hi hj,Rat.div_def];grind
    show nv (nAt t.gol (t.st.bas j))+nv (nAt t.gol v) * bT (t.st.c i) (t.st.bas i) v (t.st.bas j)=0
    rw [h1,h2];grind
  ·have h1:=h.g.same y hy
   show sm (n+rows.length) (fun k=>nv (nAt (mxL n rows v way t).gol k) * y k)=_
   rw [dA (g:=fun k=>cT (bT (t.st.c i) (t.st.bas i) v) v (fun u=>nv (nAt t.gol u)) k * y k) (fun k hk=>by rw [hgat k hk])]
   rw [p5 e2 (lJ hbv),tA hbN e2 hbv (h.tok.ok.wf.z i i hi hi) hc0]
   have h2:y (t.st.bas i)=sm (n+rows.length) (fun k=>t.st.c i k * y k):=(h.tok.ok.wf.same y).2 hy i hi
   rw [<-h2]
   have h3:sm (n+rows.length) (fun k=>nv (nAt t.gol k) * y k)=sm n (fun k=>gR gl k * y k):=h1
   show _=sm n (fun k=>gR gl k * y k)
   rw [<-h3,Rat.div_def];grind
  ·
   have hun:n<=u:=hun
   have huN:u < n+rows.length:=huN
   obtain⟨f1,f2⟩:=h.fe u hun huN
   show(mxL n rows v way t).st.y u<=(aj n rows).to (u - n)/\((aj n rows).kd (u - n)=3->(mxL n rows v way t).st.y u= (aj n rows).to (u - n))
   have f1:t.st.y u<=(aj n rows).to (u - n):=f1
   have f2:(aj n rows).kd (u - n)=3->t.st.y u= (aj n rows).to (u - n):=f2
   rw [hy' u huN]
   by_cases huv:u=v
   ·rw [huv,sX]
    rw [huv] at f1 f2 hun
    have hwm:way= -1/\(aj n rows).kd (v - n)≠3:=by
     have hfxv:=h.tok.ok.fix v e2 (fun i hi e=>hvb (by rw [<-e];exact eM h.tok.shp hi))
     unfold Sy.fx at hfxv
     have hvn':¬v < (aj n rows).n:=Nat.not_lt.2 hun
     rw [if_neg hvn'] at hfxv
     have hw0:way≠0:=by rcases hw with e | e <;> rw [e] <;> decide
     rw [pk t v hw0] at e4
     rcases hw with e | e
     ·rw [e,if_pos (by decide)] at e4
      rcases e4 with hc | hc
      ·exact absurd hc hvn'
      ·rw [hfxv] at hc;exact absurd hc (od _)
     ·rw [e,if_neg (by decide)] at e4
      rcases e4 with hc | hc | hc
      ·exact absurd hc hvn'
      ·exact⟨e,hc⟩
      ·rw [hfxv] at hc;exact absurd hc (od _)
    refine⟨?_,fun hk3=>absurd hk3 hwm.2⟩
    rw [hwm.1]
    have:((-1:Int):Rat)= -1:=rfl
    rw [hwm.1] at hfar0
    rw [this];grind
   ·by_cases hub:u∈t.bas
    ·obtain⟨j,hj,e,_⟩:=gP h.tok.shp hub
     have dirb:t.st.dir rows.length v (way:Rat) (t.st.bas j)=t.st.c j v * (way:Rat):=wc (S:=aj n rows) h.tok.ok (way:Rat) hj hvB
     rw [<-e,dirb]
     rw [<-e] at f1 f2 hun
     generalize hdv:t.st.c j v * (way:Rat)=d
     have key:Bnd n rows t v way j->rto n rows t v way i<=((aj n rows).to (t.st.bas j - n) - t.st.y (t.st.bas j)) * d⁻¹:=fun hB=>by
      have:=(l5 j hj hB).1
      unfold rto at this⊢
      rw [Rat.div_def _ (t.st.c j v * (way:Rat)),hdv] at this
      exact this
     have htri:d < 0\/0 < d\/d=0:=by grind
     rcases htri with hd | hd | hd
     ·
      constructor
      ·have:=Rat.mul_nonneg hfar0 (show 0<= -d by grind)
       grind
      ·intro hk3
       have hy0:=f2 hk3
       have h1:=key ⟨hun, .inr ⟨by rw [hdv];exact hd,hk3⟩⟩
       rw [hy0] at h1⊢
       have h2:rto n rows t v way i=0:=by grind
       rw [h2];grind
     ·have hB:Bnd n rows t v way j:=⟨hun, .inl (by rw [hdv];exact hd)⟩
      have h1:=key hB
      have h2:=Rat.mul_le_mul_of_nonneg_right h1 (Rat.le_of_lt hd)
      have h3:=Rat.inv_mul_cancel d (fun h0=>by rw [h0] at hd;exact absurd hd (by grind))
      have h4:rto n rows t v way i * d<=(aj n rows).to (t.st.bas j - n) - t.st.y (t.st.bas j):=by
       rw [Rat.mul_assoc,h3,Rat.mul_one] at h2;exact h2
      refine⟨by grind,fun hk3=> ?_⟩
      have hy0:=f2 hk3
      have h5:=Rat.mul_nonneg hfar0 (Rat.le_of_lt hd)
      rw [hy0] at h4⊢
      grind
     ·rw [hd,Rat.mul_zero,Rat.add_zero]
      exact⟨f1,f2⟩
    ·rw [uw t.st (way:Rat) huv (fun⟨j,hj,e⟩=>hub (by rw [<-e];exact eM h.tok.shp hj)),Rat.mul_zero,Rat.add_zero]
     exact⟨f1,f2⟩
  ·have hsg:sgR ((fun u=>nv (nAt t.gol u)) v)= (way:Rat):=hsw.symm
   refine⟨hi,e2,e3, ?_,fun u hu hne=> ?_,hbn, ?_,fun j hj hbnj hbdj=> ?_,funext p2,fun k hk=> ?_⟩
   ·have hw1:d7 n rows t.val v (1 * (nv (nAt t.gol v)).num.sign)=true:=by rw [Int.one_mul,hwv];exact e4
    exact(vC h.tok go.k2 e2 e3).1 hw1
   ·intro hc
    have h1:=e5 u (Nat.zero_le _) hu (by rw [Nat.sub_zero];exact hne)
    rw [Nat.sub_zero] at h1
    have h2:=(vC h.tok go.k2 (by omega) hne).2 hc
    rw [h1] at h2;cases h2
   ·rw [hsg];exact l3.2
   ·rw [hsg] at hbdj⊢
    exact l5 j hj ⟨hbnj,hbdj⟩
   ·rw [hsg]
    exact hy' k hk
end
open Go Go.Aev Go.Aev.Gen Go.Aev.Wd Go.Aev.Tb
end Go.Aev.Wd.Lg
