import Derived.Test.YtcffabneepdohaaGreatDoorBlastBackQ6
import Derived.Test.YtcffabneepdohaaGreatDoorELay
import Derived.Test.YtcffabneepdohaaGreatDoorBlastBackQ5
set_option linter.all false
namespace Go.Aev.Gen
open Go Go.Aev
theorem kX:oo aj ann:=by
 intro f bE d xs h;have g:f=36/\∃n:Int,bE= [.t (.int .i64 n)]/\d= []/\(-9223372036854775808<=n/\n<=9223372036854775807)/\xs= [.str ⟨(Go.Lib.itoa n).toArray⟩]:=by
  unfold ann at h;dsimp only at h;split at h
  .rename_i n;split at h
   .rename_i m;simp only [W5] at h;exact⟨rfl,n,rfl,rfl,m,h.symm⟩
   .cases h
  .cases h
 obtain⟨rfl,n,rfl,rfl,⟨h0,i⟩,rfl⟩:=g;refine⟨_,_,Go.Proofs.Tryz.func36,rfl,by decide, ?_⟩;intro c w ρ O args o hs e;have j:args= [.int .i64 n]:=by simp only [aD,an,az] at e;obtain⟨v,r,rfl,rfl,rfl⟩:=e;rfl
 subst j;have a:=Go.Proofs.Any.strconv_Itoa Go.Proofs.YtcffabneepdohaaGreatDoor.itoaL n h0 i w hs.glob.1;change Calls aj 36 #[.int .i64 n] w _ at a;refine a.mono ?_;rintro _ w' ⟨rfl,k,os,rfl⟩;refine⟨[.string ⟨(Go.Lib.itoa n).toArray⟩],[.str ⟨(Go.Lib.itoa n).toArray⟩],[],[],[],rfl,⟨rfl,rfl,rfl, ?_,λb l _=> ?_⟩,rfl,by simp,by simp, ?_,⟨rfl,rfl⟩⟩
 .simp [Go.Sort.grow,World.drewN]
 .simp [Go.Sort.grow,World.drewN,Array.getElem?_append,l]
 .rw [show dQ aj ann 36 (iJ ([]:List ad).head?) Go.Proofs.Tryz.f36= [.f .s] by kernel_rfl];exact⟨_,[],_,[],[],[],rfl,rfl,rfl,⟨rfl,by simp [az],rfl⟩,rfl,rfl,rfl⟩
open Go Go.Aev
theorem PX:mR aj ann (.call 5) [] []=some [.bool true]:=C2 (n:=60) (by kernel_rfl)
end Go.Aev.Gen
