/- Pieces of function 5, worked out by the kernel. -/
import Derived.Test.YtofjmfjgicdjjaaGreatP51x
set_option linter.unusedVariables false
set_option maxRecDepth 100000
namespace Go.Proofs.YtofjmfjgicdjjaaGreat.Ab.P51
open Go Go.Proofs Go.Proofs.YtofjmfjgicdjjaaGreat.Ab
/-- call 9405: 29921 operations of its own -/
theorem s9405_ok : StubOk 45 s9405 := piece_ok (L := []) (tab_nil) ⟨Tryz.f45, Tryz.func45, by kernel_rfl, by kernel_rfl⟩ (by kernel_rfl)
/-- call 9861: 15858 operations of its own -/
theorem s9861_ok : StubOk 87 s9861 := piece_ok (L := []) (tab_nil) ⟨Tryz.f87, Tryz.func87, by kernel_rfl, by kernel_rfl⟩ (by kernel_rfl)
/-- call 10789: 21371 operations of its own -/
theorem s10789_ok : StubOk 91 s10789 := piece_ok (L := []) (tab_nil) ⟨Tryz.f91, Tryz.func91, by kernel_rfl, by kernel_rfl⟩ (by kernel_rfl)
end Go.Proofs.YtofjmfjgicdjjaaGreat.Ab.P51
