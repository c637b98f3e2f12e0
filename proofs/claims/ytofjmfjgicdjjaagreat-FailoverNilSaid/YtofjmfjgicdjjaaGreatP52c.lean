/- Pieces of function 22, worked out by the kernel. -/
import Derived.Test.YtofjmfjgicdjjaaGreatP52x
set_option linter.unusedVariables false
set_option maxRecDepth 100000
namespace Go.Proofs.YtofjmfjgicdjjaaGreat.Ab.P52
open Go Go.Proofs Go.Proofs.YtofjmfjgicdjjaaGreat.Ab
/-- call 9699: 10085 operations of its own -/
theorem s9699_ok : StubOk 298 s9699 := piece_ok (L := []) (tab_nil) ⟨Tryz.f298, Tryz.func298, by kernel_rfl, by kernel_rfl⟩ (by kernel_rfl)
/-- call 10262: 10079 operations of its own -/
theorem s10262_ok : StubOk 298 s10262 := piece_ok (L := []) (tab_nil) ⟨Tryz.f298, Tryz.func298, by kernel_rfl, by kernel_rfl⟩ (by kernel_rfl)
/-- call 10825: 10079 operations of its own -/
theorem s10825_ok : StubOk 298 s10825 := piece_ok (L := []) (tab_nil) ⟨Tryz.f298, Tryz.func298, by kernel_rfl, by kernel_rfl⟩ (by kernel_rfl)
/-- call 11388: 10079 operations of its own -/
theorem s11388_ok : StubOk 298 s11388 := piece_ok (L := []) (tab_nil) ⟨Tryz.f298, Tryz.func298, by kernel_rfl, by kernel_rfl⟩ (by kernel_rfl)
/-- call 11951: 10079 operations of its own -/
theorem s11951_ok : StubOk 298 s11951 := piece_ok (L := []) (tab_nil) ⟨Tryz.f298, Tryz.func298, by kernel_rfl, by kernel_rfl⟩ (by kernel_rfl)
/-- call 18693: 30310 operations of its own -/
theorem s18693_ok : StubOk 303 s18693 := piece_ok (L := []) (tab_nil) ⟨Tryz.f303, Tryz.func303, by kernel_rfl, by kernel_rfl⟩ (by kernel_rfl)
end Go.Proofs.YtofjmfjgicdjjaaGreat.Ab.P52
