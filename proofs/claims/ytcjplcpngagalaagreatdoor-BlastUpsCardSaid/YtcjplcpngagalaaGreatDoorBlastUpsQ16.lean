import Derived.Test.YtcjplcpngagalaaGreatDoorBlastUpsQ14
import Derived.Test.YtcjplcpngagalaaGreatDoorBlastUpsQ15
set_option linter.all false
namespace Go.Aev.Gen
open Go Go.Aev Go.Proofs
theorem claim4(vs:List AV)(h:r9 ai (19+1) Tryz.f4.params.toList vs):Or (.call 4) vs []=some [.bool true]:=by rw [Tryz.params4] at h;obtain⟨a,_,rfl,c,b,_,rfl,d,rfl⟩:=h;obtain⟨x,rfl,f,g⟩:=Fq c;obtain⟨e,ms,rfl,i⟩:=ND d;exact IY ⟨f,g,i⟩ It
end Go.Aev.Gen
