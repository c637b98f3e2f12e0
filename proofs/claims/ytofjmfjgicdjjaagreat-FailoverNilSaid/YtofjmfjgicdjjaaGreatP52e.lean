/- Pieces of function 22, worked out by the kernel. -/
import Derived.Test.YtofjmfjgicdjjaaGreatP52x
set_option linter.unusedVariables false
set_option maxRecDepth 100000
namespace Go.Proofs.YtofjmfjgicdjjaaGreat.Ab.P52
open Go Go.Proofs Go.Proofs.YtofjmfjgicdjjaaGreat.Ab
/-- call 16132: 23430 operations of its own -/
theorem s16132_ok : StubOk 217 s16132 := piece_ok (L := []) (tab_nil) ⟨Tryz.f217, Tryz.func217, by kernel_rfl, by kernel_rfl⟩ (by kernel_rfl)
/-- call 17407: 23430 operations of its own -/
theorem s17407_ok : StubOk 217 s17407 := piece_ok (L := []) (tab_nil) ⟨Tryz.f217, Tryz.func217, by kernel_rfl, by kernel_rfl⟩ (by kernel_rfl)
/-- call 22500: 30679 operations of its own -/
theorem s22500_ok : StubOk 88 s22500 := piece_ok (L := []) (tab_nil) ⟨Tryz.f88, Tryz.func88, by kernel_rfl, by kernel_rfl⟩ (by kernel_rfl)
end Go.Proofs.YtofjmfjgicdjjaaGreat.Ab.P52
