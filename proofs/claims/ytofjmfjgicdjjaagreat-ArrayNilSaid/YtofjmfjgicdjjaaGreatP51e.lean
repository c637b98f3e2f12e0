/- Pieces of function 5, worked out by the kernel. -/
import Derived.Test.YtofjmfjgicdjjaaGreatP51x
import Derived.Test.YtofjmfjgicdjjaaGreatP51a
import Derived.Test.YtofjmfjgicdjjaaGreatP51b
import Derived.Test.YtofjmfjgicdjjaaGreatP51c
import Derived.Test.YtofjmfjgicdjjaaGreatP51d
set_option linter.unusedVariables false
set_option maxRecDepth 100000
namespace Go.Proofs.YtofjmfjgicdjjaaGreat.Ab.P51
open Go Go.Proofs Go.Proofs.YtofjmfjgicdjjaaGreat.Ab
/-- call 6876: 23697 operations of its own -/
theorem s6876_ok : StubOk 48 s6876 := piece_ok (L := [(88, s7882)]) (tab_cons s7882_ok tab_nil) ⟨Tryz.f48, Tryz.func48, by kernel_rfl, by kernel_rfl⟩ (by kernel_rfl)
/-- call 1: 15470 operations of its own -/
theorem s1_ok : StubOk 31 s1 := piece_ok (L := [(62, s281), (62, s1600), (62, s2919), (62, s4238), (62, s5557), (48, s6876)]) (tab_cons s281_ok (tab_cons s1600_ok (tab_cons s2919_ok (tab_cons s4238_ok (tab_cons s5557_ok (tab_cons s6876_ok tab_nil)))))) ⟨Tryz.f31, Tryz.func31, by kernel_rfl, by kernel_rfl⟩ (by kernel_rfl)
/-- call 9741: 33136 operations of its own -/
theorem s9741_ok : StubOk 42 s9741 := piece_ok (L := [(87, s9861), (91, s10789)]) (tab_cons s9861_ok (tab_cons s10789_ok tab_nil)) ⟨Tryz.f42, Tryz.func42, by kernel_rfl, by kernel_rfl⟩ (by kernel_rfl)
/-- call 12190: 17169 operations of its own -/
theorem s12190_ok : StubOk 45 s12190 := piece_ok (L := [(35, s12191)]) (tab_cons s12191_ok tab_nil) ⟨Tryz.f45, Tryz.func45, by kernel_rfl, by kernel_rfl⟩ (by kernel_rfl)
end Go.Proofs.YtofjmfjgicdjjaaGreat.Ab.P51
