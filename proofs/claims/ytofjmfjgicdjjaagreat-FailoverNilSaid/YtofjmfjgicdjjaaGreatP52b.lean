/- Pieces of function 22, worked out by the kernel. -/
import Derived.Test.YtofjmfjgicdjjaaGreatP52x
set_option linter.unusedVariables false
set_option maxRecDepth 100000
namespace Go.Proofs.YtofjmfjgicdjjaaGreat.Ab.P52
open Go Go.Proofs Go.Proofs.YtofjmfjgicdjjaaGreat.Ab
/-- call 4214: 23922 operations of its own -/
theorem s4214_ok : StubOk 62 s4214 := piece_ok (L := []) (tab_nil) ⟨Tryz.f62, Tryz.func62, by kernel_rfl, by kernel_rfl⟩ (by kernel_rfl)
/-- call 5533: 23922 operations of its own -/
theorem s5533_ok : StubOk 62 s5533 := piece_ok (L := []) (tab_nil) ⟨Tryz.f62, Tryz.func62, by kernel_rfl, by kernel_rfl⟩ (by kernel_rfl)
/-- call 7858: 30679 operations of its own -/
theorem s7858_ok : StubOk 88 s7858 := piece_ok (L := []) (tab_nil) ⟨Tryz.f88, Tryz.func88, by kernel_rfl, by kernel_rfl⟩ (by kernel_rfl)
end Go.Proofs.YtofjmfjgicdjjaaGreat.Ab.P52
