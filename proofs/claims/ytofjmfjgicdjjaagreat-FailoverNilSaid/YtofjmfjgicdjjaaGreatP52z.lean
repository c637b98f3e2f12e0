/- The whole run of function 22. -/
import Derived.Test.YtofjmfjgicdjjaaGreatP52x
import Derived.Test.YtofjmfjgicdjjaaGreatP52c
import Derived.Test.YtofjmfjgicdjjaaGreatP52d
import Derived.Test.YtofjmfjgicdjjaaGreatP52e
import Derived.Test.YtofjmfjgicdjjaaGreatP52f
import Derived.Test.YtofjmfjgicdjjaaGreatP52g
set_option linter.unusedVariables false
set_option maxRecDepth 100000
namespace Go.Proofs.YtofjmfjgicdjjaaGreat.Ab.P52
open Go Go.Proofs Go.Proofs.YtofjmfjgicdjjaaGreat.Ab
/-- The rest: 16785 operations. -/
theorem wakes : Wakes 22 := whole_wakes (L := [(65, s1), (215, s9370), (217, s12307), (217, s13582), (217, s14857), (217, s16132), (217, s17407), (303, s18693), (88, s19301), (48, s21494)]) (tab_cons s1_ok (tab_cons s9370_ok (tab_cons s12307_ok (tab_cons s13582_ok (tab_cons s14857_ok (tab_cons s16132_ok (tab_cons s17407_ok (tab_cons s18693_ok (tab_cons s19301_ok (tab_cons s21494_ok tab_nil)))))))))) (by kernel_rfl)
end Go.Proofs.YtofjmfjgicdjjaaGreat.Ab.P52
