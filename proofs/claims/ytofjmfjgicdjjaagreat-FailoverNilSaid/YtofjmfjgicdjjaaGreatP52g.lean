/- Pieces of function 22, worked out by the kernel. -/
import Derived.Test.YtofjmfjgicdjjaaGreatP52x
import Derived.Test.YtofjmfjgicdjjaaGreatP52e
set_option linter.unusedVariables false
set_option maxRecDepth 100000
namespace Go.Proofs.YtofjmfjgicdjjaaGreat.Ab.P52
open Go Go.Proofs Go.Proofs.YtofjmfjgicdjjaaGreat.Ab
/-- call 21494: 23697 operations of its own -/
theorem s21494_ok : StubOk 48 s21494 := piece_ok (L := [(88, s22500)]) (tab_cons s22500_ok tab_nil) ⟨Tryz.f48, Tryz.func48, by kernel_rfl, by kernel_rfl⟩ (by kernel_rfl)
end Go.Proofs.YtofjmfjgicdjjaaGreat.Ab.P52
