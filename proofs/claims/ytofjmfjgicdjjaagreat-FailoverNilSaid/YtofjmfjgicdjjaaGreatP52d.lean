/- Pieces of function 22, worked out by the kernel. -/
import Derived.Test.YtofjmfjgicdjjaaGreatP52x
set_option linter.unusedVariables false
set_option maxRecDepth 100000
namespace Go.Proofs.YtofjmfjgicdjjaaGreat.Ab.P52
open Go Go.Proofs Go.Proofs.YtofjmfjgicdjjaaGreat.Ab
/-- call 12307: 23430 operations of its own -/
theorem s12307_ok : StubOk 217 s12307 := piece_ok (L := []) (tab_nil) ⟨Tryz.f217, Tryz.func217, by kernel_rfl, by kernel_rfl⟩ (by kernel_rfl)
/-- call 13582: 23430 operations of its own -/
theorem s13582_ok : StubOk 217 s13582 := piece_ok (L := []) (tab_nil) ⟨Tryz.f217, Tryz.func217, by kernel_rfl, by kernel_rfl⟩ (by kernel_rfl)
/-- call 14857: 23430 operations of its own -/
theorem s14857_ok : StubOk 217 s14857 := piece_ok (L := []) (tab_nil) ⟨Tryz.f217, Tryz.func217, by kernel_rfl, by kernel_rfl⟩ (by kernel_rfl)
end Go.Proofs.YtofjmfjgicdjjaaGreat.Ab.P52
