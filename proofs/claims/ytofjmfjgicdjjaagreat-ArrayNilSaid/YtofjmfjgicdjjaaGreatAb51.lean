/- The abstract machine, part 51: what ArrayNil and FailoverNil come to behind their first call. -/
import Derived.Test.YtofjmfjgicdjjaaGreatAbK
import Derived.Test.YtofjmfjgicdjjaaGreatP51z
set_option linter.unusedVariables false
namespace Go.Proofs.YtofjmfjgicdjjaaGreat.Ab
open Go Go.Proofs
theorem arrayNil_free (n : Int) : okU (intRun 5 3 n) = true := by kernel_rfl
theorem arrayNil_true (n : Int) : AnswersTrue 3 n := int_answers P51.wakes ⟨Tryz.f5, Tryz.func5, by kernel_rfl, by kernel_rfl⟩ (arrayNil_free n)
end Go.Proofs.YtofjmfjgicdjjaaGreat.Ab
