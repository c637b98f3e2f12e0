/- The abstract machine, part 52: what FailoverNil comes to behind its first call. -/
import Derived.Test.YtofjmfjgicdjjaaGreatAbK
import Derived.Test.YtofjmfjgicdjjaaGreatP52z
set_option linter.unusedVariables false
namespace Go.Proofs.YtofjmfjgicdjjaaGreat.Ab
open Go Go.Proofs
theorem failoverNil_neg (m : Nat) : okU (intRun 22 4 (.negSucc m)) = true := by kernel_rfl
theorem failoverNil_great (m : Nat) : okU (intRun 22 4 (.ofNat (m + 61))) = true := by kernel_rfl
theorem failoverNil_few : okU (intsRun 22 4 61) = true := by kernel_rfl
theorem failoverNil_true (n : Int) : AnswersTrue 4 n := by
  have hf : ∃ fn, Tryz.prog.funcs[22]? = some fn ∧ (fn.name == "runtime.NumGoroutine") = false ∧ fn.body.isSome = true := ⟨Tryz.f22, Tryz.func22, by kernel_rfl, by kernel_rfl⟩
  match n with
  | .negSucc m => exact int_answers P52.wakes hf (failoverNil_neg m)
  | .ofNat m =>
    by_cases h : m < 61
    · exact ints_answer P52.wakes hf failoverNil_few m h
    · have := int_answers P52.wakes hf (failoverNil_great (m - 61))
      rwa [show m - 61 + 61 = m from by omega] at this
end Go.Proofs.YtofjmfjgicdjjaaGreat.Ab
