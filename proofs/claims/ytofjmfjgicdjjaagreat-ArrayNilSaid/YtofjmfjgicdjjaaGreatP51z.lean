/- The whole run of function 5. -/
import Derived.Test.YtofjmfjgicdjjaaGreatP51x
import Derived.Test.YtofjmfjgicdjjaaGreatP51c
import Derived.Test.YtofjmfjgicdjjaaGreatP51d
import Derived.Test.YtofjmfjgicdjjaaGreatP51e
set_option linter.unusedVariables false
set_option maxRecDepth 100000
namespace Go.Proofs.YtofjmfjgicdjjaaGreat.Ab.P51
open Go Go.Proofs Go.Proofs.YtofjmfjgicdjjaaGreat.Ab
/-- The rest: 22543 operations. -/
theorem wakes : Wakes 5 := whole_wakes (L := [(31, s1), (45, s9405), (42, s9741), (35, s11504), (35, s11667), (45, s12190)]) (tab_cons s1_ok (tab_cons s9405_ok (tab_cons s9741_ok (tab_cons s11504_ok (tab_cons s11667_ok (tab_cons s12190_ok tab_nil)))))) (by kernel_rfl)
end Go.Proofs.YtofjmfjgicdjjaaGreat.Ab.P51
