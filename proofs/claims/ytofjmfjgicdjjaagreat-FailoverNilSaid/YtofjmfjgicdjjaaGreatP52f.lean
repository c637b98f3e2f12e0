/- Pieces of function 22, worked out by the kernel. -/
import Derived.Test.YtofjmfjgicdjjaaGreatP52x
import Derived.Test.YtofjmfjgicdjjaaGreatP52a
import Derived.Test.YtofjmfjgicdjjaaGreatP52b
import Derived.Test.YtofjmfjgicdjjaaGreatP52c
set_option linter.unusedVariables false
set_option maxRecDepth 100000
namespace Go.Proofs.YtofjmfjgicdjjaaGreat.Ab.P52
open Go Go.Proofs Go.Proofs.YtofjmfjgicdjjaaGreat.Ab
/-- call 6852: 23697 operations of its own -/
theorem s6852_ok : StubOk 48 s6852 := piece_ok (L := [(88, s7858)]) (tab_cons s7858_ok tab_nil) ⟨Tryz.f48, Tryz.func48, by kernel_rfl, by kernel_rfl⟩ (by kernel_rfl)
/-- call 1: 11297 operations of its own -/
theorem s1_ok : StubOk 65 s1 := piece_ok (L := [(62, s257), (62, s1576), (62, s2895), (62, s4214), (62, s5533), (48, s6852)]) (tab_cons s257_ok (tab_cons s1576_ok (tab_cons s2895_ok (tab_cons s4214_ok (tab_cons s5533_ok (tab_cons s6852_ok tab_nil)))))) ⟨Tryz.f65, Tryz.func65, by kernel_rfl, by kernel_rfl⟩ (by kernel_rfl)
/-- call 9370: 31460 operations of its own -/
theorem s9370_ok : StubOk 215 s9370 := piece_ok (L := [(298, s9699), (298, s10262), (298, s10825), (298, s11388), (298, s11951)]) (tab_cons s9699_ok (tab_cons s10262_ok (tab_cons s10825_ok (tab_cons s11388_ok (tab_cons s11951_ok tab_nil))))) ⟨Tryz.f215, Tryz.func215, by kernel_rfl, by kernel_rfl⟩ (by kernel_rfl)
/-- call 19301: 39854 operations of its own -/
theorem s19301_ok : StubOk 88 s19301 := piece_ok (L := []) (tab_nil) ⟨Tryz.f88, Tryz.func88, by kernel_rfl, by kernel_rfl⟩ (by kernel_rfl)
end Go.Proofs.YtofjmfjgicdjjaaGreat.Ab.P52
