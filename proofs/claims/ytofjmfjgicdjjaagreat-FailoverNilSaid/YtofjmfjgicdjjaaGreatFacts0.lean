/- Closed facts on the program, each worked out by the kernel. -/
import Derived.Test.YtofjmfjgicdjjaaGreatRows
import Derived.JoinedOf
import Derived.KernelRfl
set_option linter.unusedVariables false
set_option maxRecDepth 100000
namespace Go.Proofs.YtofjmfjgicdjjaaGreat.Facts
open Go
theorem laid : laidOutB Tryz.pinned.checked.prog = true := by kernel_rfl
theorem maps : mapsRowed Tryz.pinned.checked.prog = true := by kernel_rfl
theorem stops : (Tryz.pinned.checked.prog.stops == []) = true := by kernel_rfl
theorem stopKnobs : (Tryz.pinned.checked.prog.stopKnobs == []) = true := by kernel_rfl
theorem plain : (false == Tryz.pinned.checked.prog.plainKeys) = true := by kernel_rfl
theorem heard : Tryz.pinned.checked.prog.stopsHeard = true := by kernel_rfl
theorem enter : Tryz.pinned.checked.prog.mayEnter = true := by kernel_rfl
theorem and_mk {a b : Bool} (h : a = true) (k : b = true) : (a && b) = true := by rw [h, k]; rfl
end Go.Proofs.YtofjmfjgicdjjaaGreat.Facts
