/- Pieces of function 5, worked out by the kernel. -/
import Derived.Test.YtofjmfjgicdjjaaGreatP51x
set_option linter.unusedVariables false
set_option maxRecDepth 100000
namespace Go.Proofs.YtofjmfjgicdjjaaGreat.Ab.P51
open Go Go.Proofs Go.Proofs.YtofjmfjgicdjjaaGreat.Ab
/-- call 281: 23922 operations of its own -/
theorem s281_ok : StubOk 62 s281 := piece_ok (L := []) (tab_nil) ⟨Tryz.f62, Tryz.func62, by kernel_rfl, by kernel_rfl⟩ (by kernel_rfl)
/-- call 1600: 23922 operations of its own -/
theorem s1600_ok : StubOk 62 s1600 := piece_ok (L := []) (tab_nil) ⟨Tryz.f62, Tryz.func62, by kernel_rfl, by kernel_rfl⟩ (by kernel_rfl)
/-- call 2919: 23922 operations of its own -/
theorem s2919_ok : StubOk 62 s2919 := piece_ok (L := []) (tab_nil) ⟨Tryz.f62, Tryz.func62, by kernel_rfl, by kernel_rfl⟩ (by kernel_rfl)
end Go.Proofs.YtofjmfjgicdjjaaGreat.Ab.P51
