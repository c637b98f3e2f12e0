/- Pieces of function 5, worked out by the kernel. -/
import Derived.Test.YtofjmfjgicdjjaaGreatP51x
set_option linter.unusedVariables false
set_option maxRecDepth 100000
namespace Go.Proofs.YtofjmfjgicdjjaaGreat.Ab.P51
open Go Go.Proofs Go.Proofs.YtofjmfjgicdjjaaGreat.Ab
/-- call 11504: 24802 operations of its own -/
theorem s11504_ok : StubOk 35 s11504 := piece_ok (L := []) (tab_nil) ⟨Tryz.f35, Tryz.func35, by kernel_rfl, by kernel_rfl⟩ (by kernel_rfl)
/-- call 11667: 28079 operations of its own -/
theorem s11667_ok : StubOk 35 s11667 := piece_ok (L := []) (tab_nil) ⟨Tryz.f35, Tryz.func35, by kernel_rfl, by kernel_rfl⟩ (by kernel_rfl)
/-- call 12191: 26488 operations of its own -/
theorem s12191_ok : StubOk 35 s12191 := piece_ok (L := []) (tab_nil) ⟨Tryz.f35, Tryz.func35, by kernel_rfl, by kernel_rfl⟩ (by kernel_rfl)
end Go.Proofs.YtofjmfjgicdjjaaGreat.Ab.P51
