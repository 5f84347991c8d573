/-
  No cell of these rows narrows 'for every input' (looked for: loops, veiled, ifaces, maps, wideKeys, modest, calm, conditions, laid).
  DERIVED. THE GIVEN ROWS OF THIS SEAT. 9 by the template 'for every input the law returns true; each argument reads behind the call as it read before'; 0 by the template 'total and deterministic' (their statements: YthflocfaafoohaaGreatTotals.lean).
  GIVEN WITH THE SEED: the statements are not yours to turn. If you find one false, say at which input.
  Laid BY PROGRAM, IN A SANDBOX (cutbox-rows.mjs): the forced cells as the released guide's own fill.sh prints them over the translation 585b9453ee6a510a… (all of the seat's roots in one cut). By AI agents, Wed Nov 11 2026. No macro, syntax, notation, axiom, sorry.
-/
import Derived.Test.YthflocfaafoohaaGreatChecked
import GoSem.Claim
import GoSem.ClaimJoined
import GoSem.ClaimMapViews
import Derived.JoinedTies
import Derived.KernelRfl
namespace Go.Proofs.YthflocfaafoohaaGreat
/- THE CELL 'sum', in the pinned program and in every row, IS THE sha256 OF THE DUMP (.gsa) THAT YthflocfaafoohaaGreatProg.lean LOADS. Nothing in Lean hashes anything: it is a label: what it is worth is what the hold of that sum in a sandbox is worth. -/
noncomputable def Tryz.pinned : Pinned := { name := "ythflocfaafoohaagreat", sum := "585b9453ee6a510a28769451dac268e733274d1600569a94793d6cbcd4840e1e", checked := Tryz.checked }
namespace Rows
def none {H : Type} : Left H := { results := [], args := [] }

/-- 'straightedgelaw20.RigidityIndependent': WHATEVER THE INPUT: true; the input reads as it did. -/
def rigidityIndependentSpec : ChangeSpec := { name := "rigidityIndependent", fn := fun _ => fun
  | [d1, d2] => { results := [.lit (.bool true)], args := [d1, d2] }
  | _ => none }
def rigidityIndependentRow : OpenClaim := { program := "ythflocfaafoohaagreat", sum := "585b9453ee6a510a28769451dac268e733274d1600569a94793d6cbcd4840e1e", func := "straightedge/straightedgelaw20.RigidityIndependent", spec := "rigidityIndependent", unfollowed := true, recurses := true, apart := false }
def RigidityIndependentSaid : Prop := rigidityIndependentRow.holds Tryz.pinned (OpenSpec.ofChange rigidityIndependentSpec)

/-- ITS FALSE NEIGHBOUR: 'it returns false'. Refute it at one input. -/
def rigidityIndependentWrong : ChangeSpec := { name := "rigidityIndependent", fn := fun _ => fun
  | [d1, d2] => { results := [.lit (.bool false)], args := [d1, d2] }
  | _ => none }
def RigidityIndependentWrongFalsely : Prop := rigidityIndependentRow.holds Tryz.pinned (OpenSpec.ofChange rigidityIndependentWrong)

/-- 'straightedgelaw20.RigidityCircuits': WHATEVER THE INPUT: true; the input reads as it did. -/
def rigidityCircuitsSpec : ChangeSpec := { name := "rigidityCircuits", fn := fun _ => fun
  | [d1, d2, d3] => { results := [.lit (.bool true)], args := [d1, d2, d3] }
  | _ => none }
def rigidityCircuitsRow : OpenClaim := { program := "ythflocfaafoohaagreat", sum := "585b9453ee6a510a28769451dac268e733274d1600569a94793d6cbcd4840e1e", func := "straightedge/straightedgelaw20.RigidityCircuits", spec := "rigidityCircuits", unfollowed := true, recurses := true, apart := false }
def RigidityCircuitsSaid : Prop := rigidityCircuitsRow.holds Tryz.pinned (OpenSpec.ofChange rigidityCircuitsSpec)

/-- ITS FALSE NEIGHBOUR: 'it returns false'. Refute it at one input. -/
def rigidityCircuitsWrong : ChangeSpec := { name := "rigidityCircuits", fn := fun _ => fun
  | [d1, d2, d3] => { results := [.lit (.bool false)], args := [d1, d2, d3] }
  | _ => none }
def RigidityCircuitsWrongFalsely : Prop := rigidityCircuitsRow.holds Tryz.pinned (OpenSpec.ofChange rigidityCircuitsWrong)

/-- 'straightedgelaw20.RigidityClusters': WHATEVER THE INPUT: true; the input reads as it did. -/
def rigidityClustersSpec : ChangeSpec := { name := "rigidityClusters", fn := fun _ => fun
  | [d1, d2] => { results := [.lit (.bool true)], args := [d1, d2] }
  | _ => none }
def rigidityClustersRow : OpenClaim := { program := "ythflocfaafoohaagreat", sum := "585b9453ee6a510a28769451dac268e733274d1600569a94793d6cbcd4840e1e", func := "straightedge/straightedgelaw20.RigidityClusters", spec := "rigidityClusters", unfollowed := true, recurses := true, apart := false }
def RigidityClustersSaid : Prop := rigidityClustersRow.holds Tryz.pinned (OpenSpec.ofChange rigidityClustersSpec)

/-- ITS FALSE NEIGHBOUR: 'it returns false'. Refute it at one input. -/
def rigidityClustersWrong : ChangeSpec := { name := "rigidityClusters", fn := fun _ => fun
  | [d1, d2] => { results := [.lit (.bool false)], args := [d1, d2] }
  | _ => none }
def RigidityClustersWrongFalsely : Prop := rigidityClustersRow.holds Tryz.pinned (OpenSpec.ofChange rigidityClustersWrong)

/-- 'straightedgelaw20.RigidityMatroid': WHATEVER THE INPUT: true; the input reads as it did. -/
def rigidityMatroidSpec : ChangeSpec := { name := "rigidityMatroid", fn := fun _ => fun
  | [d1, d2, d3] => { results := [.lit (.bool true)], args := [d1, d2, d3] }
  | _ => none }
def rigidityMatroidRow : OpenClaim := { program := "ythflocfaafoohaagreat", sum := "585b9453ee6a510a28769451dac268e733274d1600569a94793d6cbcd4840e1e", func := "straightedge/straightedgelaw20.RigidityMatroid", spec := "rigidityMatroid", unfollowed := true, recurses := true, apart := false }
def RigidityMatroidSaid : Prop := rigidityMatroidRow.holds Tryz.pinned (OpenSpec.ofChange rigidityMatroidSpec)

/-- ITS FALSE NEIGHBOUR: 'it returns false'. Refute it at one input. -/
def rigidityMatroidWrong : ChangeSpec := { name := "rigidityMatroid", fn := fun _ => fun
  | [d1, d2, d3] => { results := [.lit (.bool false)], args := [d1, d2, d3] }
  | _ => none }
def RigidityMatroidWrongFalsely : Prop := rigidityMatroidRow.holds Tryz.pinned (OpenSpec.ofChange rigidityMatroidWrong)

/-- 'straightedgelaw20.RigidityParts': WHATEVER THE INPUT: true; the input reads as it did. -/
def rigidityPartsSpec : ChangeSpec := { name := "rigidityParts", fn := fun _ => fun
  | [d1, d2] => { results := [.lit (.bool true)], args := [d1, d2] }
  | _ => none }
def rigidityPartsRow : OpenClaim := { program := "ythflocfaafoohaagreat", sum := "585b9453ee6a510a28769451dac268e733274d1600569a94793d6cbcd4840e1e", func := "straightedge/straightedgelaw20.RigidityParts", spec := "rigidityParts", unfollowed := true, recurses := true, apart := false }
def RigidityPartsSaid : Prop := rigidityPartsRow.holds Tryz.pinned (OpenSpec.ofChange rigidityPartsSpec)

/-- ITS FALSE NEIGHBOUR: 'it returns false'. Refute it at one input. -/
def rigidityPartsWrong : ChangeSpec := { name := "rigidityParts", fn := fun _ => fun
  | [d1, d2] => { results := [.lit (.bool false)], args := [d1, d2] }
  | _ => none }
def RigidityPartsWrongFalsely : Prop := rigidityPartsRow.holds Tryz.pinned (OpenSpec.ofChange rigidityPartsWrong)

/-- 'straightedgelaw20.RigidityBuilds': WHATEVER THE INPUT: true; the input reads as it did. -/
def rigidityBuildsSpec : ChangeSpec := { name := "rigidityBuilds", fn := fun _ => fun
  | [d1, d2, d3, d4] => { results := [.lit (.bool true)], args := [d1, d2, d3, d4] }
  | _ => none }
def rigidityBuildsRow : OpenClaim := { program := "ythflocfaafoohaagreat", sum := "585b9453ee6a510a28769451dac268e733274d1600569a94793d6cbcd4840e1e", func := "straightedge/straightedgelaw20.RigidityBuilds", spec := "rigidityBuilds", unfollowed := true, recurses := true, apart := false }
def RigidityBuildsSaid : Prop := rigidityBuildsRow.holds Tryz.pinned (OpenSpec.ofChange rigidityBuildsSpec)

/-- ITS FALSE NEIGHBOUR: 'it returns false'. Refute it at one input. -/
def rigidityBuildsWrong : ChangeSpec := { name := "rigidityBuilds", fn := fun _ => fun
  | [d1, d2, d3, d4] => { results := [.lit (.bool false)], args := [d1, d2, d3, d4] }
  | _ => none }
def RigidityBuildsWrongFalsely : Prop := rigidityBuildsRow.holds Tryz.pinned (OpenSpec.ofChange rigidityBuildsWrong)

/-- 'straightedgelaw20.RigidityGeneric': WHATEVER THE INPUT: true; the input reads as it did. -/
def rigidityGenericSpec : ChangeSpec := { name := "rigidityGeneric", fn := fun _ => fun
  | [d1, d2, d3] => { results := [.lit (.bool true)], args := [d1, d2, d3] }
  | _ => none }
def rigidityGenericRow : OpenClaim := { program := "ythflocfaafoohaagreat", sum := "585b9453ee6a510a28769451dac268e733274d1600569a94793d6cbcd4840e1e", func := "straightedge/straightedgelaw20.RigidityGeneric", spec := "rigidityGeneric", unfollowed := true, recurses := true, apart := false }
def RigidityGenericSaid : Prop := rigidityGenericRow.holds Tryz.pinned (OpenSpec.ofChange rigidityGenericSpec)

/-- ITS FALSE NEIGHBOUR: 'it returns false'. Refute it at one input. -/
def rigidityGenericWrong : ChangeSpec := { name := "rigidityGeneric", fn := fun _ => fun
  | [d1, d2, d3] => { results := [.lit (.bool false)], args := [d1, d2, d3] }
  | _ => none }
def RigidityGenericWrongFalsely : Prop := rigidityGenericRow.holds Tryz.pinned (OpenSpec.ofChange rigidityGenericWrong)

/-- 'straightedgelaw20.RigidityMotions': WHATEVER THE INPUT: true; the input reads as it did. -/
def rigidityMotionsSpec : ChangeSpec := { name := "rigidityMotions", fn := fun _ => fun
  | [d1, d2, d3] => { results := [.lit (.bool true)], args := [d1, d2, d3] }
  | _ => none }
def rigidityMotionsRow : OpenClaim := { program := "ythflocfaafoohaagreat", sum := "585b9453ee6a510a28769451dac268e733274d1600569a94793d6cbcd4840e1e", func := "straightedge/straightedgelaw20.RigidityMotions", spec := "rigidityMotions", unfollowed := true, recurses := true, apart := false }
def RigidityMotionsSaid : Prop := rigidityMotionsRow.holds Tryz.pinned (OpenSpec.ofChange rigidityMotionsSpec)

/-- ITS FALSE NEIGHBOUR: 'it returns false'. Refute it at one input. -/
def rigidityMotionsWrong : ChangeSpec := { name := "rigidityMotions", fn := fun _ => fun
  | [d1, d2, d3] => { results := [.lit (.bool false)], args := [d1, d2, d3] }
  | _ => none }
def RigidityMotionsWrongFalsely : Prop := rigidityMotionsRow.holds Tryz.pinned (OpenSpec.ofChange rigidityMotionsWrong)

/-- 'straightedgelaw20.RigidityWork': WHATEVER THE INPUT: true; the input reads as it did. -/
def rigidityWorkSpec : ChangeSpec := { name := "rigidityWork", fn := fun _ => fun
  | [d1, d2, d3] => { results := [.lit (.bool true)], args := [d1, d2, d3] }
  | _ => none }
def rigidityWorkRow : OpenClaim := { program := "ythflocfaafoohaagreat", sum := "585b9453ee6a510a28769451dac268e733274d1600569a94793d6cbcd4840e1e", func := "straightedge/straightedgelaw20.RigidityWork", spec := "rigidityWork", unfollowed := true, recurses := true, apart := false }
def RigidityWorkSaid : Prop := rigidityWorkRow.holds Tryz.pinned (OpenSpec.ofChange rigidityWorkSpec)

/-- ITS FALSE NEIGHBOUR: 'it returns false'. Refute it at one input. -/
def rigidityWorkWrong : ChangeSpec := { name := "rigidityWork", fn := fun _ => fun
  | [d1, d2, d3] => { results := [.lit (.bool false)], args := [d1, d2, d3] }
  | _ => none }
def RigidityWorkWrongFalsely : Prop := rigidityWorkRow.holds Tryz.pinned (OpenSpec.ofChange rigidityWorkWrong)

/- THE SECOND FORM. 'bulk': how many values and letters a reading holds, each counted each time it is reached (what is shared counts as often as it is met; a slice's spare places count too). A statement '..UptoSaid' is the law's where the arguments, and the package variables that the reading takes, are together of bulk at most 1048576: NARROWER than '..Said'. Prove '..Said' where nothing that the law and all that it calls make is longer than what came in: it says more and counts as full. Else prove '..UptoSaid'. A law counts once. -/
mutual
def uptoBulk {H : Type} : DataW H → Nat
  | .lit (.string bytes) => bytes.length + 1
  | .lit _ => 1
  | .nil => 1
  | .ptr d => uptoBulk d + 1
  | .slice elems spare => uptoBulkAll elems + uptoBulkAll spare + 1
  | .agg parts => uptoBulkAll parts + 1
  | .iface _ d => uptoBulk d + 1
  | .map entries => uptoBulkEntries entries + 1
  | .held _ => 1
def uptoBulkAll {H : Type} : List (DataW H) → Nat
  | [] => 0
  | d :: r => uptoBulk d + uptoBulkAll r
def uptoBulkEntries {H : Type} : List (Lit × DataW H) → Nat
  | [] => 0
  | x :: r => uptoBulkEntry x + uptoBulkEntries r
def uptoBulkEntry {H : Type} : Lit × DataW H → Nat
  | (.string bytes, d) => bytes.length + uptoBulk d + 1
  | (_, d) => uptoBulk d + 1
 end
def uptoSmall : (H : Type) → List (DataW H) → Bool := fun _ ds => decide (uptoBulkAll ds ≤ 1048576)
def OpenSpec.upto (s : _root_.Go.ChangeSpec) : _root_.Go.OpenSpec := { _root_.Go.OpenSpec.ofChange s with cond := some uptoSmall }

/-- 'straightedgelaw20.RigidityIndependent', WHERE WHAT IT READS IS OF BULK AT MOST 1048576: true; the input reads as it did. -/
def rigidityIndependentUptoRow : OpenClaim := { program := "ythflocfaafoohaagreat", sum := "585b9453ee6a510a28769451dac268e733274d1600569a94793d6cbcd4840e1e", func := "straightedge/straightedgelaw20.RigidityIndependent", spec := "rigidityIndependent", unfollowed := true, recurses := true, apart := false, narrowed := true }
def RigidityIndependentUptoSaid : Prop := rigidityIndependentUptoRow.holds Tryz.pinned (OpenSpec.upto rigidityIndependentSpec)

/-- 'straightedgelaw20.RigidityCircuits', WHERE WHAT IT READS IS OF BULK AT MOST 1048576: true; the input reads as it did. -/
def rigidityCircuitsUptoRow : OpenClaim := { program := "ythflocfaafoohaagreat", sum := "585b9453ee6a510a28769451dac268e733274d1600569a94793d6cbcd4840e1e", func := "straightedge/straightedgelaw20.RigidityCircuits", spec := "rigidityCircuits", unfollowed := true, recurses := true, apart := false, narrowed := true }
def RigidityCircuitsUptoSaid : Prop := rigidityCircuitsUptoRow.holds Tryz.pinned (OpenSpec.upto rigidityCircuitsSpec)

/-- 'straightedgelaw20.RigidityClusters', WHERE WHAT IT READS IS OF BULK AT MOST 1048576: true; the input reads as it did. -/
def rigidityClustersUptoRow : OpenClaim := { program := "ythflocfaafoohaagreat", sum := "585b9453ee6a510a28769451dac268e733274d1600569a94793d6cbcd4840e1e", func := "straightedge/straightedgelaw20.RigidityClusters", spec := "rigidityClusters", unfollowed := true, recurses := true, apart := false, narrowed := true }
def RigidityClustersUptoSaid : Prop := rigidityClustersUptoRow.holds Tryz.pinned (OpenSpec.upto rigidityClustersSpec)

/-- 'straightedgelaw20.RigidityMatroid', WHERE WHAT IT READS IS OF BULK AT MOST 1048576: true; the input reads as it did. -/
def rigidityMatroidUptoRow : OpenClaim := { program := "ythflocfaafoohaagreat", sum := "585b9453ee6a510a28769451dac268e733274d1600569a94793d6cbcd4840e1e", func := "straightedge/straightedgelaw20.RigidityMatroid", spec := "rigidityMatroid", unfollowed := true, recurses := true, apart := false, narrowed := true }
def RigidityMatroidUptoSaid : Prop := rigidityMatroidUptoRow.holds Tryz.pinned (OpenSpec.upto rigidityMatroidSpec)

/-- 'straightedgelaw20.RigidityParts', WHERE WHAT IT READS IS OF BULK AT MOST 1048576: true; the input reads as it did. -/
def rigidityPartsUptoRow : OpenClaim := { program := "ythflocfaafoohaagreat", sum := "585b9453ee6a510a28769451dac268e733274d1600569a94793d6cbcd4840e1e", func := "straightedge/straightedgelaw20.RigidityParts", spec := "rigidityParts", unfollowed := true, recurses := true, apart := false, narrowed := true }
def RigidityPartsUptoSaid : Prop := rigidityPartsUptoRow.holds Tryz.pinned (OpenSpec.upto rigidityPartsSpec)

/-- 'straightedgelaw20.RigidityBuilds', WHERE WHAT IT READS IS OF BULK AT MOST 1048576: true; the input reads as it did. -/
def rigidityBuildsUptoRow : OpenClaim := { program := "ythflocfaafoohaagreat", sum := "585b9453ee6a510a28769451dac268e733274d1600569a94793d6cbcd4840e1e", func := "straightedge/straightedgelaw20.RigidityBuilds", spec := "rigidityBuilds", unfollowed := true, recurses := true, apart := false, narrowed := true }
def RigidityBuildsUptoSaid : Prop := rigidityBuildsUptoRow.holds Tryz.pinned (OpenSpec.upto rigidityBuildsSpec)

/-- 'straightedgelaw20.RigidityGeneric', WHERE WHAT IT READS IS OF BULK AT MOST 1048576: true; the input reads as it did. -/
def rigidityGenericUptoRow : OpenClaim := { program := "ythflocfaafoohaagreat", sum := "585b9453ee6a510a28769451dac268e733274d1600569a94793d6cbcd4840e1e", func := "straightedge/straightedgelaw20.RigidityGeneric", spec := "rigidityGeneric", unfollowed := true, recurses := true, apart := false, narrowed := true }
def RigidityGenericUptoSaid : Prop := rigidityGenericUptoRow.holds Tryz.pinned (OpenSpec.upto rigidityGenericSpec)

/-- 'straightedgelaw20.RigidityMotions', WHERE WHAT IT READS IS OF BULK AT MOST 1048576: true; the input reads as it did. -/
def rigidityMotionsUptoRow : OpenClaim := { program := "ythflocfaafoohaagreat", sum := "585b9453ee6a510a28769451dac268e733274d1600569a94793d6cbcd4840e1e", func := "straightedge/straightedgelaw20.RigidityMotions", spec := "rigidityMotions", unfollowed := true, recurses := true, apart := false, narrowed := true }
def RigidityMotionsUptoSaid : Prop := rigidityMotionsUptoRow.holds Tryz.pinned (OpenSpec.upto rigidityMotionsSpec)

/-- 'straightedgelaw20.RigidityWork', WHERE WHAT IT READS IS OF BULK AT MOST 1048576: true; the input reads as it did. -/
def rigidityWorkUptoRow : OpenClaim := { program := "ythflocfaafoohaagreat", sum := "585b9453ee6a510a28769451dac268e733274d1600569a94793d6cbcd4840e1e", func := "straightedge/straightedgelaw20.RigidityWork", spec := "rigidityWork", unfollowed := true, recurses := true, apart := false, narrowed := true }
def RigidityWorkUptoSaid : Prop := rigidityWorkUptoRow.holds Tryz.pinned (OpenSpec.upto rigidityWorkSpec)

end Rows
end Go.Proofs.YthflocfaafoohaaGreat
