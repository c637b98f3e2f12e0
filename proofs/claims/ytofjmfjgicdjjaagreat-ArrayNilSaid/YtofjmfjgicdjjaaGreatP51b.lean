/- Pieces of function 5, worked out by the kernel. -/
import Derived.Test.YtofjmfjgicdjjaaGreatP51x
set_option linter.unusedVariables false
set_option maxRecDepth 100000
namespace Go.Proofs.YtofjmfjgicdjjaaGreat.Ab.P51
open Go Go.Proofs Go.Proofs.YtofjmfjgicdjjaaGreat.Ab
/-- call 4238: 23922 operations of its own -/
theorem s4238_ok : StubOk 62 s4238 := piece_ok (L := []) (tab_nil) ⟨Tryz.f62, Tryz.func62, by kernel_rfl, by kernel_rfl⟩ (by kernel_rfl)
/-- call 5557: 23922 operations of its own -/
theorem s5557_ok : StubOk 62 s5557 := piece_ok (L := []) (tab_nil) ⟨Tryz.f62, Tryz.func62, by kernel_rfl, by kernel_rfl⟩ (by kernel_rfl)
/-- call 7882: 30679 operations of its own -/
theorem s7882_ok : StubOk 88 s7882 := piece_ok (L := []) (tab_nil) ⟨Tryz.f88, Tryz.func88, by kernel_rfl, by kernel_rfl⟩ (by kernel_rfl)
end Go.Proofs.YtofjmfjgicdjjaaGreat.Ab.P51
