/-
  No cell of these rows narrows 'for every input' (looked for: loops, veiled, ifaces, maps, wideKeys, modest, calm, conditions, laid).
  DERIVED. THE GIVEN ROWS OF THIS SEAT. 2 by the template 'for every input the law returns true; each argument reads behind the call as it read before'; 0 by the template 'total and deterministic' (their statements: YtofjmfjgicdjjaaGreatTotals.lean).
  GIVEN WITH THE SEED: the statements are not yours to turn. If you find one false, say at which input.
  Laid BY PROGRAM, IN A SANDBOX (cutbox-rows.mjs): the forced cells as the released guide's own fill.sh prints them over the translation 13c23435b2ba7936… (all of the seat's roots in one cut). By AI agents, Wed Nov 11 2026. No macro, syntax, notation, axiom, sorry.
-/
import Derived.Test.YtofjmfjgicdjjaaGreatChecked
import GoSem.Claim
import GoSem.ClaimJoined
import GoSem.ClaimMapViews
import Derived.JoinedTies
import Derived.KernelRfl
namespace Go.Proofs.YtofjmfjgicdjjaaGreat
/- THE CELL 'sum', in the pinned program and in every row, IS THE sha256 OF THE DUMP (.gsa) THAT YtofjmfjgicdjjaaGreatProg.lean LOADS. Nothing in Lean hashes anything: it is a label: what it is worth is what the hold of that sum in a sandbox is worth. -/
noncomputable def Tryz.pinned : Pinned := { name := "ytofjmfjgicdjjaagreat", sum := "13c23435b2ba79363e840fdc89d0ecec4aa10773212bc6c74d01861313301377", checked := Tryz.checked }
namespace Rows
def none {H : Type} : Left H := { results := [], args := [] }

/-- 'tegulalaw51.ArrayNil': WHATEVER THE INPUT: true; the input reads as it did. -/
def arrayNilSpec : ChangeSpec := { name := "arrayNil", fn := fun _ => fun
  | [d] => { results := [.lit (.bool true)], args := [d] }
  | _ => none }
def arrayNilRow : OpenClaim := { program := "ytofjmfjgicdjjaagreat", sum := "13c23435b2ba79363e840fdc89d0ecec4aa10773212bc6c74d01861313301377", func := "tegula/tegulalaw51.ArrayNil", spec := "arrayNil", inPlace := ["slices.overlaps[tegula/api.Move]"], unfollowed := true, recurses := true, plainKeys := false, apart := false }
def ArrayNilSaid : Prop := arrayNilRow.holds Tryz.pinned (OpenSpec.ofChange arrayNilSpec)

/-- ITS FALSE NEIGHBOUR: 'it returns false'. Refute it at one input. -/
def arrayNilWrong : ChangeSpec := { name := "arrayNil", fn := fun _ => fun
  | [d] => { results := [.lit (.bool false)], args := [d] }
  | _ => none }
def ArrayNilWrongFalsely : Prop := arrayNilRow.holds Tryz.pinned (OpenSpec.ofChange arrayNilWrong)

/-- 'tegulalaw52.FailoverNil': WHATEVER THE INPUT: true; the input reads as it did. -/
def failoverNilSpec : ChangeSpec := { name := "failoverNil", fn := fun _ => fun
  | [d] => { results := [.lit (.bool true)], args := [d] }
  | _ => none }
def failoverNilRow : OpenClaim := { program := "ytofjmfjgicdjjaagreat", sum := "13c23435b2ba79363e840fdc89d0ecec4aa10773212bc6c74d01861313301377", func := "tegula/tegulalaw52.FailoverNil", spec := "failoverNil", inPlace := ["slices.overlaps[tegula/api.Move]"], unfollowed := true, recurses := true, plainKeys := false, apart := false }
def FailoverNilSaid : Prop := failoverNilRow.holds Tryz.pinned (OpenSpec.ofChange failoverNilSpec)

/-- ITS FALSE NEIGHBOUR: 'it returns false'. Refute it at one input. -/
def failoverNilWrong : ChangeSpec := { name := "failoverNil", fn := fun _ => fun
  | [d] => { results := [.lit (.bool false)], args := [d] }
  | _ => none }
def FailoverNilWrongFalsely : Prop := failoverNilRow.holds Tryz.pinned (OpenSpec.ofChange failoverNilWrong)

/- THE SECOND FORM. 'bulk': how many values and letters a reading holds, each counted each time it is reached (what is shared counts as often as it is met; a slice's spare places count too). A statement '..UptoSaid' is the law's where the arguments, and the package variables that the reading takes, are together of bulk at most 1048576: NARROWER than '..Said'. Prove '..Said' where nothing that the law and all that it calls make is longer than what came in: it says more and counts as full. Else prove '..UptoSaid'. A law counts once. -/
mutual
def uptoBulk {H : Type} : DataW H → Nat
  | .lit (.string bytes) => bytes.length + 1
  | .lit _ => 1
  | .nil => 1
  | .ptr d => uptoBulk d + 1
  | .slice elems spare => uptoBulkAll elems + uptoBulkAll spare + 1
  | .agg parts => uptoBulkAll parts + 1
  | .iface _ d => uptoBulk d + 1
  | .map entries => uptoBulkEntries entries + 1
  | .held _ => 1
def uptoBulkAll {H : Type} : List (DataW H) → Nat
  | [] => 0
  | d :: r => uptoBulk d + uptoBulkAll r
def uptoBulkEntries {H : Type} : List (Lit × DataW H) → Nat
  | [] => 0
  | x :: r => uptoBulkEntry x + uptoBulkEntries r
def uptoBulkEntry {H : Type} : Lit × DataW H → Nat
  | (.string bytes, d) => bytes.length + uptoBulk d + 1
  | (_, d) => uptoBulk d + 1
 end
def uptoSmall : (H : Type) → List (DataW H) → Bool := fun _ ds => decide (uptoBulkAll ds ≤ 1048576)
def OpenSpec.upto (s : _root_.Go.ChangeSpec) : _root_.Go.OpenSpec := { _root_.Go.OpenSpec.ofChange s with cond := some uptoSmall }

/-- 'tegulalaw51.ArrayNil', WHERE WHAT IT READS IS OF BULK AT MOST 1048576: true; the input reads as it did. -/
def arrayNilUptoRow : OpenClaim := { program := "ytofjmfjgicdjjaagreat", sum := "13c23435b2ba79363e840fdc89d0ecec4aa10773212bc6c74d01861313301377", func := "tegula/tegulalaw51.ArrayNil", spec := "arrayNil", inPlace := ["slices.overlaps[tegula/api.Move]"], unfollowed := true, recurses := true, plainKeys := false, apart := false, narrowed := true }
def ArrayNilUptoSaid : Prop := arrayNilUptoRow.holds Tryz.pinned (OpenSpec.upto arrayNilSpec)

/-- 'tegulalaw52.FailoverNil', WHERE WHAT IT READS IS OF BULK AT MOST 1048576: true; the input reads as it did. -/
def failoverNilUptoRow : OpenClaim := { program := "ytofjmfjgicdjjaagreat", sum := "13c23435b2ba79363e840fdc89d0ecec4aa10773212bc6c74d01861313301377", func := "tegula/tegulalaw52.FailoverNil", spec := "failoverNil", inPlace := ["slices.overlaps[tegula/api.Move]"], unfollowed := true, recurses := true, plainKeys := false, apart := false, narrowed := true }
def FailoverNilUptoSaid : Prop := failoverNilUptoRow.holds Tryz.pinned (OpenSpec.upto failoverNilSpec)

end Rows
end Go.Proofs.YtofjmfjgicdjjaaGreat
