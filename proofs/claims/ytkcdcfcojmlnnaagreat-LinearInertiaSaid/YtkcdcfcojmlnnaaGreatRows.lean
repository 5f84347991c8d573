/-
  No cell of these rows narrows 'for every input' (looked for: loops, veiled, ifaces, maps, wideKeys, modest, calm, conditions, laid).
  DERIVED. THE GIVEN ROWS OF THIS SEAT. 12 by the template 'for every input the law returns true; each argument reads behind the call as it read before'; 0 by the template 'total and deterministic' (their statements: YtkcdcfcojmlnnaaGreatTotals.lean).
  GIVEN WITH THE SEED: the statements are not yours to turn. If you find one false, say at which input.
  Laid BY PROGRAM, IN A SANDBOX (cutbox-rows.mjs): the forced cells as the released guide's own fill.sh prints them over the translation 73685fc4ae75ccd9… (all of the seat's roots in one cut). By AI agents, Wed Nov 11 2026. No macro, syntax, notation, axiom, sorry.
-/
import Derived.Test.YtkcdcfcojmlnnaaGreatChecked
import GoSem.Claim
import GoSem.ClaimJoined
import GoSem.ClaimMapViews
import Derived.JoinedTies
import Derived.KernelRfl
namespace Go.Proofs.YtkcdcfcojmlnnaaGreat
/- THE CELL 'sum', in the pinned program and in every row, IS THE sha256 OF THE DUMP (.gsa) THAT YtkcdcfcojmlnnaaGreatProg.lean LOADS. Nothing in Lean hashes anything: it is a label: what it is worth is what the hold of that sum in a sandbox is worth. -/
noncomputable def Tryz.pinned : Pinned := { name := "ytkcdcfcojmlnnaagreat", sum := "73685fc4ae75ccd969d81569509c37d442b15886c0efc3b15e39d0a0379e52fe", checked := Tryz.checked }
namespace Rows
def none {H : Type} : Left H := { results := [], args := [] }

/-- 'straightedgelaw07.LinearReduces': WHATEVER THE INPUT: true; the input reads as it did. -/
def linearReducesSpec : ChangeSpec := { name := "linearReduces", fn := fun _ => fun
  | [d] => { results := [.lit (.bool true)], args := [d] }
  | _ => none }
def linearReducesRow : OpenClaim := { program := "ytkcdcfcojmlnnaagreat", sum := "73685fc4ae75ccd969d81569509c37d442b15886c0efc3b15e39d0a0379e52fe", func := "straightedge/straightedgelaw07.LinearReduces", spec := "linearReduces", unfollowed := true, recurses := true, apart := false }
def LinearReducesSaid : Prop := linearReducesRow.holds Tryz.pinned (OpenSpec.ofChange linearReducesSpec)

/-- ITS FALSE NEIGHBOUR: 'it returns false'. Refute it at one input. -/
def linearReducesWrong : ChangeSpec := { name := "linearReduces", fn := fun _ => fun
  | [d] => { results := [.lit (.bool false)], args := [d] }
  | _ => none }
def LinearReducesWrongFalsely : Prop := linearReducesRow.holds Tryz.pinned (OpenSpec.ofChange linearReducesWrong)

/-- 'straightedgelaw07.LinearDets': WHATEVER THE INPUT: true; the input reads as it did. -/
def linearDetsSpec : ChangeSpec := { name := "linearDets", fn := fun _ => fun
  | [d] => { results := [.lit (.bool true)], args := [d] }
  | _ => none }
def linearDetsRow : OpenClaim := { program := "ytkcdcfcojmlnnaagreat", sum := "73685fc4ae75ccd969d81569509c37d442b15886c0efc3b15e39d0a0379e52fe", func := "straightedge/straightedgelaw07.LinearDets", spec := "linearDets", unfollowed := true, recurses := true, apart := false }
def LinearDetsSaid : Prop := linearDetsRow.holds Tryz.pinned (OpenSpec.ofChange linearDetsSpec)

/-- ITS FALSE NEIGHBOUR: 'it returns false'. Refute it at one input. -/
def linearDetsWrong : ChangeSpec := { name := "linearDets", fn := fun _ => fun
  | [d] => { results := [.lit (.bool false)], args := [d] }
  | _ => none }
def LinearDetsWrongFalsely : Prop := linearDetsRow.holds Tryz.pinned (OpenSpec.ofChange linearDetsWrong)

/-- 'straightedgelaw07.LinearSquares': WHATEVER THE INPUT: true; the input reads as it did. -/
def linearSquaresSpec : ChangeSpec := { name := "linearSquares", fn := fun _ => fun
  | [d] => { results := [.lit (.bool true)], args := [d] }
  | _ => none }
def linearSquaresRow : OpenClaim := { program := "ytkcdcfcojmlnnaagreat", sum := "73685fc4ae75ccd969d81569509c37d442b15886c0efc3b15e39d0a0379e52fe", func := "straightedge/straightedgelaw07.LinearSquares", spec := "linearSquares", unfollowed := true, recurses := true, apart := false }
def LinearSquaresSaid : Prop := linearSquaresRow.holds Tryz.pinned (OpenSpec.ofChange linearSquaresSpec)

/-- ITS FALSE NEIGHBOUR: 'it returns false'. Refute it at one input. -/
def linearSquaresWrong : ChangeSpec := { name := "linearSquares", fn := fun _ => fun
  | [d] => { results := [.lit (.bool false)], args := [d] }
  | _ => none }
def LinearSquaresWrongFalsely : Prop := linearSquaresRow.holds Tryz.pinned (OpenSpec.ofChange linearSquaresWrong)

/-- 'straightedgelaw07.LinearInertia': WHATEVER THE INPUT: true; the input reads as it did. -/
def linearInertiaSpec : ChangeSpec := { name := "linearInertia", fn := fun _ => fun
  | [d1, d2] => { results := [.lit (.bool true)], args := [d1, d2] }
  | _ => none }
def linearInertiaRow : OpenClaim := { program := "ytkcdcfcojmlnnaagreat", sum := "73685fc4ae75ccd969d81569509c37d442b15886c0efc3b15e39d0a0379e52fe", func := "straightedge/straightedgelaw07.LinearInertia", spec := "linearInertia", unfollowed := true, recurses := true, apart := false }
def LinearInertiaSaid : Prop := linearInertiaRow.holds Tryz.pinned (OpenSpec.ofChange linearInertiaSpec)

/-- ITS FALSE NEIGHBOUR: 'it returns false'. Refute it at one input. -/
def linearInertiaWrong : ChangeSpec := { name := "linearInertia", fn := fun _ => fun
  | [d1, d2] => { results := [.lit (.bool false)], args := [d1, d2] }
  | _ => none }
def LinearInertiaWrongFalsely : Prop := linearInertiaRow.holds Tryz.pinned (OpenSpec.ofChange linearInertiaWrong)

/-- 'straightedgelaw07.LinearKernels': WHATEVER THE INPUT: true; the input reads as it did. -/
def linearKernelsSpec : ChangeSpec := { name := "linearKernels", fn := fun _ => fun
  | [d] => { results := [.lit (.bool true)], args := [d] }
  | _ => none }
def linearKernelsRow : OpenClaim := { program := "ytkcdcfcojmlnnaagreat", sum := "73685fc4ae75ccd969d81569509c37d442b15886c0efc3b15e39d0a0379e52fe", func := "straightedge/straightedgelaw07.LinearKernels", spec := "linearKernels", unfollowed := true, recurses := true, apart := false }
def LinearKernelsSaid : Prop := linearKernelsRow.holds Tryz.pinned (OpenSpec.ofChange linearKernelsSpec)

/-- ITS FALSE NEIGHBOUR: 'it returns false'. Refute it at one input. -/
def linearKernelsWrong : ChangeSpec := { name := "linearKernels", fn := fun _ => fun
  | [d] => { results := [.lit (.bool false)], args := [d] }
  | _ => none }
def LinearKernelsWrongFalsely : Prop := linearKernelsRow.holds Tryz.pinned (OpenSpec.ofChange linearKernelsWrong)

/-- 'straightedgelaw07.LinearProducts': WHATEVER THE INPUT: true; the input reads as it did. -/
def linearProductsSpec : ChangeSpec := { name := "linearProducts", fn := fun _ => fun
  | [d1, d2] => { results := [.lit (.bool true)], args := [d1, d2] }
  | _ => none }
def linearProductsRow : OpenClaim := { program := "ytkcdcfcojmlnnaagreat", sum := "73685fc4ae75ccd969d81569509c37d442b15886c0efc3b15e39d0a0379e52fe", func := "straightedge/straightedgelaw07.LinearProducts", spec := "linearProducts", unfollowed := true, recurses := true, apart := false }
def LinearProductsSaid : Prop := linearProductsRow.holds Tryz.pinned (OpenSpec.ofChange linearProductsSpec)

/-- ITS FALSE NEIGHBOUR: 'it returns false'. Refute it at one input. -/
def linearProductsWrong : ChangeSpec := { name := "linearProducts", fn := fun _ => fun
  | [d1, d2] => { results := [.lit (.bool false)], args := [d1, d2] }
  | _ => none }
def LinearProductsWrongFalsely : Prop := linearProductsRow.holds Tryz.pinned (OpenSpec.ofChange linearProductsWrong)

/-- 'straightedgelaw07.LinearNullity': WHATEVER THE INPUT: true; the input reads as it did. -/
def linearNullitySpec : ChangeSpec := { name := "linearNullity", fn := fun _ => fun
  | [d] => { results := [.lit (.bool true)], args := [d] }
  | _ => none }
def linearNullityRow : OpenClaim := { program := "ytkcdcfcojmlnnaagreat", sum := "73685fc4ae75ccd969d81569509c37d442b15886c0efc3b15e39d0a0379e52fe", func := "straightedge/straightedgelaw07.LinearNullity", spec := "linearNullity", unfollowed := true, recurses := true, apart := false }
def LinearNullitySaid : Prop := linearNullityRow.holds Tryz.pinned (OpenSpec.ofChange linearNullitySpec)

/-- ITS FALSE NEIGHBOUR: 'it returns false'. Refute it at one input. -/
def linearNullityWrong : ChangeSpec := { name := "linearNullity", fn := fun _ => fun
  | [d] => { results := [.lit (.bool false)], args := [d] }
  | _ => none }
def LinearNullityWrongFalsely : Prop := linearNullityRow.holds Tryz.pinned (OpenSpec.ofChange linearNullityWrong)

/-- 'straightedgelaw07.LinearMultiplies': WHATEVER THE INPUT: true; the input reads as it did. -/
def linearMultipliesSpec : ChangeSpec := { name := "linearMultiplies", fn := fun _ => fun
  | [d1, d2] => { results := [.lit (.bool true)], args := [d1, d2] }
  | _ => none }
def linearMultipliesRow : OpenClaim := { program := "ytkcdcfcojmlnnaagreat", sum := "73685fc4ae75ccd969d81569509c37d442b15886c0efc3b15e39d0a0379e52fe", func := "straightedge/straightedgelaw07.LinearMultiplies", spec := "linearMultiplies", unfollowed := true, recurses := true, apart := false }
def LinearMultipliesSaid : Prop := linearMultipliesRow.holds Tryz.pinned (OpenSpec.ofChange linearMultipliesSpec)

/-- ITS FALSE NEIGHBOUR: 'it returns false'. Refute it at one input. -/
def linearMultipliesWrong : ChangeSpec := { name := "linearMultiplies", fn := fun _ => fun
  | [d1, d2] => { results := [.lit (.bool false)], args := [d1, d2] }
  | _ => none }
def LinearMultipliesWrongFalsely : Prop := linearMultipliesRow.holds Tryz.pinned (OpenSpec.ofChange linearMultipliesWrong)

/-- 'straightedgelaw07.LinearSums': WHATEVER THE INPUT: true; the input reads as it did. -/
def linearSumsSpec : ChangeSpec := { name := "linearSums", fn := fun _ => fun
  | [d] => { results := [.lit (.bool true)], args := [d] }
  | _ => none }
def linearSumsRow : OpenClaim := { program := "ytkcdcfcojmlnnaagreat", sum := "73685fc4ae75ccd969d81569509c37d442b15886c0efc3b15e39d0a0379e52fe", func := "straightedge/straightedgelaw07.LinearSums", spec := "linearSums", unfollowed := true, recurses := true, apart := false }
def LinearSumsSaid : Prop := linearSumsRow.holds Tryz.pinned (OpenSpec.ofChange linearSumsSpec)

/-- ITS FALSE NEIGHBOUR: 'it returns false'. Refute it at one input. -/
def linearSumsWrong : ChangeSpec := { name := "linearSums", fn := fun _ => fun
  | [d] => { results := [.lit (.bool false)], args := [d] }
  | _ => none }
def LinearSumsWrongFalsely : Prop := linearSumsRow.holds Tryz.pinned (OpenSpec.ofChange linearSumsWrong)

/-- 'straightedgelaw07.LinearSolves': WHATEVER THE INPUT: true; the input reads as it did. -/
def linearSolvesSpec : ChangeSpec := { name := "linearSolves", fn := fun _ => fun
  | [d1, d2] => { results := [.lit (.bool true)], args := [d1, d2] }
  | _ => none }
def linearSolvesRow : OpenClaim := { program := "ytkcdcfcojmlnnaagreat", sum := "73685fc4ae75ccd969d81569509c37d442b15886c0efc3b15e39d0a0379e52fe", func := "straightedge/straightedgelaw07.LinearSolves", spec := "linearSolves", unfollowed := true, recurses := true, apart := false }
def LinearSolvesSaid : Prop := linearSolvesRow.holds Tryz.pinned (OpenSpec.ofChange linearSolvesSpec)

/-- ITS FALSE NEIGHBOUR: 'it returns false'. Refute it at one input. -/
def linearSolvesWrong : ChangeSpec := { name := "linearSolves", fn := fun _ => fun
  | [d1, d2] => { results := [.lit (.bool false)], args := [d1, d2] }
  | _ => none }
def LinearSolvesWrongFalsely : Prop := linearSolvesRow.holds Tryz.pinned (OpenSpec.ofChange linearSolvesWrong)

/-- 'straightedgelaw07.LinearSingular': WHATEVER THE INPUT: true; the input reads as it did. -/
def linearSingularSpec : ChangeSpec := { name := "linearSingular", fn := fun _ => fun
  | [d1, d2] => { results := [.lit (.bool true)], args := [d1, d2] }
  | _ => none }
def linearSingularRow : OpenClaim := { program := "ytkcdcfcojmlnnaagreat", sum := "73685fc4ae75ccd969d81569509c37d442b15886c0efc3b15e39d0a0379e52fe", func := "straightedge/straightedgelaw07.LinearSingular", spec := "linearSingular", unfollowed := true, recurses := true, apart := false }
def LinearSingularSaid : Prop := linearSingularRow.holds Tryz.pinned (OpenSpec.ofChange linearSingularSpec)

/-- ITS FALSE NEIGHBOUR: 'it returns false'. Refute it at one input. -/
def linearSingularWrong : ChangeSpec := { name := "linearSingular", fn := fun _ => fun
  | [d1, d2] => { results := [.lit (.bool false)], args := [d1, d2] }
  | _ => none }
def LinearSingularWrongFalsely : Prop := linearSingularRow.holds Tryz.pinned (OpenSpec.ofChange linearSingularWrong)

/-- 'straightedgelaw07.LinearSolvable': WHATEVER THE INPUT: true; the input reads as it did. -/
def linearSolvableSpec : ChangeSpec := { name := "linearSolvable", fn := fun _ => fun
  | [d1, d2] => { results := [.lit (.bool true)], args := [d1, d2] }
  | _ => none }
def linearSolvableRow : OpenClaim := { program := "ytkcdcfcojmlnnaagreat", sum := "73685fc4ae75ccd969d81569509c37d442b15886c0efc3b15e39d0a0379e52fe", func := "straightedge/straightedgelaw07.LinearSolvable", spec := "linearSolvable", unfollowed := true, recurses := true, apart := false }
def LinearSolvableSaid : Prop := linearSolvableRow.holds Tryz.pinned (OpenSpec.ofChange linearSolvableSpec)

/-- ITS FALSE NEIGHBOUR: 'it returns false'. Refute it at one input. -/
def linearSolvableWrong : ChangeSpec := { name := "linearSolvable", fn := fun _ => fun
  | [d1, d2] => { results := [.lit (.bool false)], args := [d1, d2] }
  | _ => none }
def LinearSolvableWrongFalsely : Prop := linearSolvableRow.holds Tryz.pinned (OpenSpec.ofChange linearSolvableWrong)

/- THE SECOND FORM. 'bulk': how many values and letters a reading holds, each counted each time it is reached (what is shared counts as often as it is met; a slice's spare places count too). A statement '..UptoSaid' is the law's where the arguments, and the package variables that the reading takes, are together of bulk at most 1048576: NARROWER than '..Said'. Prove '..Said' where nothing that the law and all that it calls make is longer than what came in: it says more and counts as full. Else prove '..UptoSaid'. A law counts once. -/
mutual
def uptoBulk {H : Type} : DataW H → Nat
  | .lit (.string bytes) => bytes.length + 1
  | .lit _ => 1
  | .nil => 1
  | .ptr d => uptoBulk d + 1
  | .slice elems spare => uptoBulkAll elems + uptoBulkAll spare + 1
  | .agg parts => uptoBulkAll parts + 1
  | .iface _ d => uptoBulk d + 1
  | .map entries => uptoBulkEntries entries + 1
  | .held _ => 1
def uptoBulkAll {H : Type} : List (DataW H) → Nat
  | [] => 0
  | d :: r => uptoBulk d + uptoBulkAll r
def uptoBulkEntries {H : Type} : List (Lit × DataW H) → Nat
  | [] => 0
  | x :: r => uptoBulkEntry x + uptoBulkEntries r
def uptoBulkEntry {H : Type} : Lit × DataW H → Nat
  | (.string bytes, d) => bytes.length + uptoBulk d + 1
  | (_, d) => uptoBulk d + 1
 end
def uptoSmall : (H : Type) → List (DataW H) → Bool := fun _ ds => decide (uptoBulkAll ds ≤ 1048576)
def OpenSpec.upto (s : _root_.Go.ChangeSpec) : _root_.Go.OpenSpec := { _root_.Go.OpenSpec.ofChange s with cond := some uptoSmall }

/-- 'straightedgelaw07.LinearReduces', WHERE WHAT IT READS IS OF BULK AT MOST 1048576: true; the input reads as it did. -/
def linearReducesUptoRow : OpenClaim := { program := "ytkcdcfcojmlnnaagreat", sum := "73685fc4ae75ccd969d81569509c37d442b15886c0efc3b15e39d0a0379e52fe", func := "straightedge/straightedgelaw07.LinearReduces", spec := "linearReduces", unfollowed := true, recurses := true, apart := false, narrowed := true }
def LinearReducesUptoSaid : Prop := linearReducesUptoRow.holds Tryz.pinned (OpenSpec.upto linearReducesSpec)

/-- 'straightedgelaw07.LinearDets', WHERE WHAT IT READS IS OF BULK AT MOST 1048576: true; the input reads as it did. -/
def linearDetsUptoRow : OpenClaim := { program := "ytkcdcfcojmlnnaagreat", sum := "73685fc4ae75ccd969d81569509c37d442b15886c0efc3b15e39d0a0379e52fe", func := "straightedge/straightedgelaw07.LinearDets", spec := "linearDets", unfollowed := true, recurses := true, apart := false, narrowed := true }
def LinearDetsUptoSaid : Prop := linearDetsUptoRow.holds Tryz.pinned (OpenSpec.upto linearDetsSpec)

/-- 'straightedgelaw07.LinearSquares', WHERE WHAT IT READS IS OF BULK AT MOST 1048576: true; the input reads as it did. -/
def linearSquaresUptoRow : OpenClaim := { program := "ytkcdcfcojmlnnaagreat", sum := "73685fc4ae75ccd969d81569509c37d442b15886c0efc3b15e39d0a0379e52fe", func := "straightedge/straightedgelaw07.LinearSquares", spec := "linearSquares", unfollowed := true, recurses := true, apart := false, narrowed := true }
def LinearSquaresUptoSaid : Prop := linearSquaresUptoRow.holds Tryz.pinned (OpenSpec.upto linearSquaresSpec)

/-- 'straightedgelaw07.LinearInertia', WHERE WHAT IT READS IS OF BULK AT MOST 1048576: true; the input reads as it did. -/
def linearInertiaUptoRow : OpenClaim := { program := "ytkcdcfcojmlnnaagreat", sum := "73685fc4ae75ccd969d81569509c37d442b15886c0efc3b15e39d0a0379e52fe", func := "straightedge/straightedgelaw07.LinearInertia", spec := "linearInertia", unfollowed := true, recurses := true, apart := false, narrowed := true }
def LinearInertiaUptoSaid : Prop := linearInertiaUptoRow.holds Tryz.pinned (OpenSpec.upto linearInertiaSpec)

/-- 'straightedgelaw07.LinearKernels', WHERE WHAT IT READS IS OF BULK AT MOST 1048576: true; the input reads as it did. -/
def linearKernelsUptoRow : OpenClaim := { program := "ytkcdcfcojmlnnaagreat", sum := "73685fc4ae75ccd969d81569509c37d442b15886c0efc3b15e39d0a0379e52fe", func := "straightedge/straightedgelaw07.LinearKernels", spec := "linearKernels", unfollowed := true, recurses := true, apart := false, narrowed := true }
def LinearKernelsUptoSaid : Prop := linearKernelsUptoRow.holds Tryz.pinned (OpenSpec.upto linearKernelsSpec)

/-- 'straightedgelaw07.LinearProducts', WHERE WHAT IT READS IS OF BULK AT MOST 1048576: true; the input reads as it did. -/
def linearProductsUptoRow : OpenClaim := { program := "ytkcdcfcojmlnnaagreat", sum := "73685fc4ae75ccd969d81569509c37d442b15886c0efc3b15e39d0a0379e52fe", func := "straightedge/straightedgelaw07.LinearProducts", spec := "linearProducts", unfollowed := true, recurses := true, apart := false, narrowed := true }
def LinearProductsUptoSaid : Prop := linearProductsUptoRow.holds Tryz.pinned (OpenSpec.upto linearProductsSpec)

/-- 'straightedgelaw07.LinearNullity', WHERE WHAT IT READS IS OF BULK AT MOST 1048576: true; the input reads as it did. -/
def linearNullityUptoRow : OpenClaim := { program := "ytkcdcfcojmlnnaagreat", sum := "73685fc4ae75ccd969d81569509c37d442b15886c0efc3b15e39d0a0379e52fe", func := "straightedge/straightedgelaw07.LinearNullity", spec := "linearNullity", unfollowed := true, recurses := true, apart := false, narrowed := true }
def LinearNullityUptoSaid : Prop := linearNullityUptoRow.holds Tryz.pinned (OpenSpec.upto linearNullitySpec)

/-- 'straightedgelaw07.LinearMultiplies', WHERE WHAT IT READS IS OF BULK AT MOST 1048576: true; the input reads as it did. -/
def linearMultipliesUptoRow : OpenClaim := { program := "ytkcdcfcojmlnnaagreat", sum := "73685fc4ae75ccd969d81569509c37d442b15886c0efc3b15e39d0a0379e52fe", func := "straightedge/straightedgelaw07.LinearMultiplies", spec := "linearMultiplies", unfollowed := true, recurses := true, apart := false, narrowed := true }
def LinearMultipliesUptoSaid : Prop := linearMultipliesUptoRow.holds Tryz.pinned (OpenSpec.upto linearMultipliesSpec)

/-- 'straightedgelaw07.LinearSums', WHERE WHAT IT READS IS OF BULK AT MOST 1048576: true; the input reads as it did. -/
def linearSumsUptoRow : OpenClaim := { program := "ytkcdcfcojmlnnaagreat", sum := "73685fc4ae75ccd969d81569509c37d442b15886c0efc3b15e39d0a0379e52fe", func := "straightedge/straightedgelaw07.LinearSums", spec := "linearSums", unfollowed := true, recurses := true, apart := false, narrowed := true }
def LinearSumsUptoSaid : Prop := linearSumsUptoRow.holds Tryz.pinned (OpenSpec.upto linearSumsSpec)

/-- 'straightedgelaw07.LinearSolves', WHERE WHAT IT READS IS OF BULK AT MOST 1048576: true; the input reads as it did. -/
def linearSolvesUptoRow : OpenClaim := { program := "ytkcdcfcojmlnnaagreat", sum := "73685fc4ae75ccd969d81569509c37d442b15886c0efc3b15e39d0a0379e52fe", func := "straightedge/straightedgelaw07.LinearSolves", spec := "linearSolves", unfollowed := true, recurses := true, apart := false, narrowed := true }
def LinearSolvesUptoSaid : Prop := linearSolvesUptoRow.holds Tryz.pinned (OpenSpec.upto linearSolvesSpec)

/-- 'straightedgelaw07.LinearSingular', WHERE WHAT IT READS IS OF BULK AT MOST 1048576: true; the input reads as it did. -/
def linearSingularUptoRow : OpenClaim := { program := "ytkcdcfcojmlnnaagreat", sum := "73685fc4ae75ccd969d81569509c37d442b15886c0efc3b15e39d0a0379e52fe", func := "straightedge/straightedgelaw07.LinearSingular", spec := "linearSingular", unfollowed := true, recurses := true, apart := false, narrowed := true }
def LinearSingularUptoSaid : Prop := linearSingularUptoRow.holds Tryz.pinned (OpenSpec.upto linearSingularSpec)

/-- 'straightedgelaw07.LinearSolvable', WHERE WHAT IT READS IS OF BULK AT MOST 1048576: true; the input reads as it did. -/
def linearSolvableUptoRow : OpenClaim := { program := "ytkcdcfcojmlnnaagreat", sum := "73685fc4ae75ccd969d81569509c37d442b15886c0efc3b15e39d0a0379e52fe", func := "straightedge/straightedgelaw07.LinearSolvable", spec := "linearSolvable", unfollowed := true, recurses := true, apart := false, narrowed := true }
def LinearSolvableUptoSaid : Prop := linearSolvableUptoRow.holds Tryz.pinned (OpenSpec.upto linearSolvableSpec)

end Rows
end Go.Proofs.YtkcdcfcojmlnnaaGreat
