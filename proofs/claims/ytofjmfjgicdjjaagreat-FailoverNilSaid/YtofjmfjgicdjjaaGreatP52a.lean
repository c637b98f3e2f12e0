/- Pieces of function 22, worked out by the kernel. -/
import Derived.Test.YtofjmfjgicdjjaaGreatP52x
set_option linter.unusedVariables false
set_option maxRecDepth 100000
namespace Go.Proofs.YtofjmfjgicdjjaaGreat.Ab.P52
open Go Go.Proofs Go.Proofs.YtofjmfjgicdjjaaGreat.Ab
/-- call 257: 23922 operations of its own -/
theorem s257_ok : StubOk 62 s257 := piece_ok (L := []) (tab_nil) ⟨Tryz.f62, Tryz.func62, by kernel_rfl, by kernel_rfl⟩ (by kernel_rfl)
/-- call 1576: 23922 operations of its own -/
theorem s1576_ok : StubOk 62 s1576 := piece_ok (L := []) (tab_nil) ⟨Tryz.f62, Tryz.func62, by kernel_rfl, by kernel_rfl⟩ (by kernel_rfl)
/-- call 2895: 23922 operations of its own -/
theorem s2895_ok : StubOk 62 s2895 := piece_ok (L := []) (tab_nil) ⟨Tryz.f62, Tryz.func62, by kernel_rfl, by kernel_rfl⟩ (by kernel_rfl)
end Go.Proofs.YtofjmfjgicdjjaaGreat.Ab.P52
