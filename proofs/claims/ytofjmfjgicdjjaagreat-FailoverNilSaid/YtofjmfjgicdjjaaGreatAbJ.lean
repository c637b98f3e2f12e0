/- The abstract machine, part 46: all functions of the program may be run by it. -/
import Derived.Test.YtofjmfjgicdjjaaGreatAbH
set_option linter.unusedVariables false
namespace Go.Proofs.YtofjmfjgicdjjaaGreat.Ab
open Go Go.Proofs
theorem all_ok : okAll Tryz.prog.funcs.toList = true := by kernel_rfl
end Go.Proofs.YtofjmfjgicdjjaaGreat.Ab

