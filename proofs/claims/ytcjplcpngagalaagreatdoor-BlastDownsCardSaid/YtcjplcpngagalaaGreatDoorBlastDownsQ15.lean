import Derived.Test.YtcjplcpngagalaaGreatDoorBlastDownsQ14
set_option linter.all false
namespace Go.Aev.Gen
open Go Go.Aev Go.Proofs
theorem claim3(vs:List AV)(h:rH ak (19+1) Tryz.f3.params.toList vs):Or (.call 3) vs []=some [.bool true]:=by rw [Tryz.params3] at h;obtain⟨a,_,rfl,c,b,_,rfl,d,rfl⟩:=h;obtain⟨x,rfl,f,g⟩:=Ef c;obtain⟨e,ms,rfl,i⟩:=Mn d;exact HM ⟨f,g,i⟩ Hl
end Go.Aev.Gen
