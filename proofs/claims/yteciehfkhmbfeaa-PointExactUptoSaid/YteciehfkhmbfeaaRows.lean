/-
  No cell of these rows narrows 'for every input' (looked for: loops, veiled, ifaces, maps, wideKeys, modest, calm, conditions, laid).
  DERIVED. THE GIVEN ROWS OF THIS SEAT. 9 by the template 'for every input the law returns true; each argument reads behind the call as it read before'; 0 by the template 'total and deterministic' (their statements: YteciehfkhmbfeaaTotals.lean).
  GIVEN WITH THE SEED: the statements are not yours to turn. If you find one false, say at which input.
  Laid BY PROGRAM, IN A SANDBOX (cutbox-rows.mjs): the forced cells as the released guide's own fill.sh prints them over the translation eafd46bb47f2839b… (all of the seat's roots in one cut). By AI agents, Wed Nov 11 2026. No macro, syntax, notation, axiom, sorry.
-/
import Derived.Test.YteciehfkhmbfeaaChecked
import GoSem.Claim
import GoSem.ClaimJoined
import GoSem.ClaimMapViews
import Derived.JoinedTies
import Derived.KernelRfl
namespace Go.Proofs.Yteciehfkhmbfeaa
/- THE CELL 'sum', in the pinned program and in every row, IS THE sha256 OF THE DUMP (.gsa) THAT YteciehfkhmbfeaaProg.lean LOADS. Nothing in Lean hashes anything: it is a label: what it is worth is what the hold of that sum in a sandbox is worth. -/
noncomputable def Try.pinned : Pinned := { name := "yteciehfkhmbfeaa", sum := "eafd46bb47f2839bcdb4f3119c196fd3f79a199366128753f2256bb8f6196dc3", checked := Try.checked }
namespace Rows
def none {H : Type} : Left H := { results := [], args := [] }

/-- 'cylinderlaw31.PointShape': WHATEVER THE INPUT: true; the input reads as it did. -/
def pointShapeSpec : ChangeSpec := { name := "pointShape", fn := fun _ => fun
  | [d] => { results := [.lit (.bool true)], args := [d] }
  | _ => none }
def pointShapeRow : OpenClaim := { program := "yteciehfkhmbfeaa", sum := "eafd46bb47f2839bcdb4f3119c196fd3f79a199366128753f2256bb8f6196dc3", func := "cylinder/cylinderlaw31.PointShape", spec := "pointShape", unfollowed := true, recurses := true, named := ["math/bits.overflowError", "math/bits.divideError"], apart := false }
def PointShapeSaid : Prop := pointShapeRow.holds Try.pinned (OpenSpec.ofChange pointShapeSpec)

/-- ITS FALSE NEIGHBOUR: 'it returns false'. Refute it at one input. -/
def pointShapeWrong : ChangeSpec := { name := "pointShape", fn := fun _ => fun
  | [d] => { results := [.lit (.bool false)], args := [d] }
  | _ => none }
def PointShapeWrongFalsely : Prop := pointShapeRow.holds Try.pinned (OpenSpec.ofChange pointShapeWrong)

/-- 'cylinderlaw31.PointRationals': WHATEVER THE INPUT: true; the input reads as it did. -/
def pointRationalsSpec : ChangeSpec := { name := "pointRationals", fn := fun _ => fun
  | [d1, d2] => { results := [.lit (.bool true)], args := [d1, d2] }
  | _ => none }
def pointRationalsRow : OpenClaim := { program := "yteciehfkhmbfeaa", sum := "eafd46bb47f2839bcdb4f3119c196fd3f79a199366128753f2256bb8f6196dc3", func := "cylinder/cylinderlaw31.PointRationals", spec := "pointRationals", unfollowed := true, recurses := true, named := ["math/bits.overflowError", "math/bits.divideError"], apart := false }
def PointRationalsSaid : Prop := pointRationalsRow.holds Try.pinned (OpenSpec.ofChange pointRationalsSpec)

/-- ITS FALSE NEIGHBOUR: 'it returns false'. Refute it at one input. -/
def pointRationalsWrong : ChangeSpec := { name := "pointRationals", fn := fun _ => fun
  | [d1, d2] => { results := [.lit (.bool false)], args := [d1, d2] }
  | _ => none }
def PointRationalsWrongFalsely : Prop := pointRationalsRow.holds Try.pinned (OpenSpec.ofChange pointRationalsWrong)

/-- 'cylinderlaw31.PointParts': WHATEVER THE INPUT: true; the input reads as it did. -/
def pointPartsSpec : ChangeSpec := { name := "pointParts", fn := fun _ => fun
  | [d1, d2, d3] => { results := [.lit (.bool true)], args := [d1, d2, d3] }
  | _ => none }
def pointPartsRow : OpenClaim := { program := "yteciehfkhmbfeaa", sum := "eafd46bb47f2839bcdb4f3119c196fd3f79a199366128753f2256bb8f6196dc3", func := "cylinder/cylinderlaw31.PointParts", spec := "pointParts", unfollowed := true, recurses := true, named := ["math/bits.overflowError", "math/bits.divideError"], apart := false }
def PointPartsSaid : Prop := pointPartsRow.holds Try.pinned (OpenSpec.ofChange pointPartsSpec)

/-- ITS FALSE NEIGHBOUR: 'it returns false'. Refute it at one input. -/
def pointPartsWrong : ChangeSpec := { name := "pointParts", fn := fun _ => fun
  | [d1, d2, d3] => { results := [.lit (.bool false)], args := [d1, d2, d3] }
  | _ => none }
def PointPartsWrongFalsely : Prop := pointPartsRow.holds Try.pinned (OpenSpec.ofChange pointPartsWrong)

/-- 'cylinderlaw31.PointNormal': WHATEVER THE INPUT: true; the input reads as it did. -/
def pointNormalSpec : ChangeSpec := { name := "pointNormal", fn := fun _ => fun
  | [d1, d2] => { results := [.lit (.bool true)], args := [d1, d2] }
  | _ => none }
def pointNormalRow : OpenClaim := { program := "yteciehfkhmbfeaa", sum := "eafd46bb47f2839bcdb4f3119c196fd3f79a199366128753f2256bb8f6196dc3", func := "cylinder/cylinderlaw31.PointNormal", spec := "pointNormal", unfollowed := true, recurses := true, named := ["math/bits.overflowError", "math/bits.divideError"], apart := false }
def PointNormalSaid : Prop := pointNormalRow.holds Try.pinned (OpenSpec.ofChange pointNormalSpec)

/-- ITS FALSE NEIGHBOUR: 'it returns false'. Refute it at one input. -/
def pointNormalWrong : ChangeSpec := { name := "pointNormal", fn := fun _ => fun
  | [d1, d2] => { results := [.lit (.bool false)], args := [d1, d2] }
  | _ => none }
def PointNormalWrongFalsely : Prop := pointNormalRow.holds Try.pinned (OpenSpec.ofChange pointNormalWrong)

/-- 'cylinderlaw31.PointEncloses': WHATEVER THE INPUT: true; the input reads as it did. -/
def pointEnclosesSpec : ChangeSpec := { name := "pointEncloses", fn := fun _ => fun
  | [d1, d2] => { results := [.lit (.bool true)], args := [d1, d2] }
  | _ => none }
def pointEnclosesRow : OpenClaim := { program := "yteciehfkhmbfeaa", sum := "eafd46bb47f2839bcdb4f3119c196fd3f79a199366128753f2256bb8f6196dc3", func := "cylinder/cylinderlaw31.PointEncloses", spec := "pointEncloses", unfollowed := true, recurses := true, named := ["math/bits.overflowError", "math/bits.divideError"], apart := false }
def PointEnclosesSaid : Prop := pointEnclosesRow.holds Try.pinned (OpenSpec.ofChange pointEnclosesSpec)

/-- ITS FALSE NEIGHBOUR: 'it returns false'. Refute it at one input. -/
def pointEnclosesWrong : ChangeSpec := { name := "pointEncloses", fn := fun _ => fun
  | [d1, d2] => { results := [.lit (.bool false)], args := [d1, d2] }
  | _ => none }
def PointEnclosesWrongFalsely : Prop := pointEnclosesRow.holds Try.pinned (OpenSpec.ofChange pointEnclosesWrong)

/-- 'cylinderlaw31.PointExact': WHATEVER THE INPUT: true; the input reads as it did. -/
def pointExactSpec : ChangeSpec := { name := "pointExact", fn := fun _ => fun
  | [d1, d2] => { results := [.lit (.bool true)], args := [d1, d2] }
  | _ => none }
def pointExactRow : OpenClaim := { program := "yteciehfkhmbfeaa", sum := "eafd46bb47f2839bcdb4f3119c196fd3f79a199366128753f2256bb8f6196dc3", func := "cylinder/cylinderlaw31.PointExact", spec := "pointExact", unfollowed := true, recurses := true, named := ["math/bits.overflowError", "math/bits.divideError"], apart := false }
def PointExactSaid : Prop := pointExactRow.holds Try.pinned (OpenSpec.ofChange pointExactSpec)

/-- ITS FALSE NEIGHBOUR: 'it returns false'. Refute it at one input. -/
def pointExactWrong : ChangeSpec := { name := "pointExact", fn := fun _ => fun
  | [d1, d2] => { results := [.lit (.bool false)], args := [d1, d2] }
  | _ => none }
def PointExactWrongFalsely : Prop := pointExactRow.holds Try.pinned (OpenSpec.ofChange pointExactWrong)

/-- 'cylinderlaw12.HenselReduce': WHATEVER THE INPUT: true; the input reads as it did. -/
def henselReduceSpec : ChangeSpec := { name := "henselReduce", fn := fun _ => fun
  | [d1, d2, d3] => { results := [.lit (.bool true)], args := [d1, d2, d3] }
  | _ => none }
def henselReduceRow : OpenClaim := { program := "yteciehfkhmbfeaa", sum := "eafd46bb47f2839bcdb4f3119c196fd3f79a199366128753f2256bb8f6196dc3", func := "cylinder/cylinderlaw12.HenselReduce", spec := "henselReduce", unfollowed := true, recurses := true, named := ["math/bits.overflowError", "math/bits.divideError"], apart := false }
def HenselReduceSaid : Prop := henselReduceRow.holds Try.pinned (OpenSpec.ofChange henselReduceSpec)

/-- ITS FALSE NEIGHBOUR: 'it returns false'. Refute it at one input. -/
def henselReduceWrong : ChangeSpec := { name := "henselReduce", fn := fun _ => fun
  | [d1, d2, d3] => { results := [.lit (.bool false)], args := [d1, d2, d3] }
  | _ => none }
def HenselReduceWrongFalsely : Prop := henselReduceRow.holds Try.pinned (OpenSpec.ofChange henselReduceWrong)

/-- 'cylinderlaw12.HenselExponent': WHATEVER THE INPUT: true; the input reads as it did. -/
def henselExponentSpec : ChangeSpec := { name := "henselExponent", fn := fun _ => fun
  | [d1, d2] => { results := [.lit (.bool true)], args := [d1, d2] }
  | _ => none }
def henselExponentRow : OpenClaim := { program := "yteciehfkhmbfeaa", sum := "eafd46bb47f2839bcdb4f3119c196fd3f79a199366128753f2256bb8f6196dc3", func := "cylinder/cylinderlaw12.HenselExponent", spec := "henselExponent", unfollowed := true, recurses := true, named := ["math/bits.overflowError", "math/bits.divideError"], apart := false }
def HenselExponentSaid : Prop := henselExponentRow.holds Try.pinned (OpenSpec.ofChange henselExponentSpec)

/-- ITS FALSE NEIGHBOUR: 'it returns false'. Refute it at one input. -/
def henselExponentWrong : ChangeSpec := { name := "henselExponent", fn := fun _ => fun
  | [d1, d2] => { results := [.lit (.bool false)], args := [d1, d2] }
  | _ => none }
def HenselExponentWrongFalsely : Prop := henselExponentRow.holds Try.pinned (OpenSpec.ofChange henselExponentWrong)

/-- 'cylinderlaw12.HenselReturns': WHATEVER THE INPUT: true; the input reads as it did. -/
def henselReturnsSpec : ChangeSpec := { name := "henselReturns", fn := fun _ => fun
  | [d1, d2, d3] => { results := [.lit (.bool true)], args := [d1, d2, d3] }
  | _ => none }
def henselReturnsRow : OpenClaim := { program := "yteciehfkhmbfeaa", sum := "eafd46bb47f2839bcdb4f3119c196fd3f79a199366128753f2256bb8f6196dc3", func := "cylinder/cylinderlaw12.HenselReturns", spec := "henselReturns", unfollowed := true, recurses := true, named := ["math/bits.overflowError", "math/bits.divideError"], apart := false }
def HenselReturnsSaid : Prop := henselReturnsRow.holds Try.pinned (OpenSpec.ofChange henselReturnsSpec)

/-- ITS FALSE NEIGHBOUR: 'it returns false'. Refute it at one input. -/
def henselReturnsWrong : ChangeSpec := { name := "henselReturns", fn := fun _ => fun
  | [d1, d2, d3] => { results := [.lit (.bool false)], args := [d1, d2, d3] }
  | _ => none }
def HenselReturnsWrongFalsely : Prop := henselReturnsRow.holds Try.pinned (OpenSpec.ofChange henselReturnsWrong)

/- THE SECOND FORM. 'bulk': how many values and letters a reading holds, each counted each time it is reached (what is shared counts as often as it is met; a slice's spare places count too). A statement '..UptoSaid' is the law's where the arguments, and the package variables that the reading takes, are together of bulk at most 1048576: NARROWER than '..Said'. Prove '..Said' where nothing that the law and all that it calls make is longer than what came in: it says more and counts as full. Else prove '..UptoSaid'. A law counts once. -/
mutual
def uptoBulk {H : Type} : DataW H → Nat
  | .lit (.string bytes) => bytes.length + 1
  | .lit _ => 1
  | .nil => 1
  | .ptr d => uptoBulk d + 1
  | .slice elems spare => uptoBulkAll elems + uptoBulkAll spare + 1
  | .agg parts => uptoBulkAll parts + 1
  | .iface _ d => uptoBulk d + 1
  | .map entries => uptoBulkEntries entries + 1
  | .held _ => 1
def uptoBulkAll {H : Type} : List (DataW H) → Nat
  | [] => 0
  | d :: r => uptoBulk d + uptoBulkAll r
def uptoBulkEntries {H : Type} : List (Lit × DataW H) → Nat
  | [] => 0
  | x :: r => uptoBulkEntry x + uptoBulkEntries r
def uptoBulkEntry {H : Type} : Lit × DataW H → Nat
  | (.string bytes, d) => bytes.length + uptoBulk d + 1
  | (_, d) => uptoBulk d + 1
 end
def uptoSmall : (H : Type) → List (DataW H) → Bool := fun _ ds => decide (uptoBulkAll ds ≤ 1048576)
def OpenSpec.upto (s : _root_.Go.ChangeSpec) : _root_.Go.OpenSpec := { _root_.Go.OpenSpec.ofChange s with cond := some uptoSmall }

/-- 'cylinderlaw31.PointShape', WHERE WHAT IT READS IS OF BULK AT MOST 1048576: true; the input reads as it did. -/
def pointShapeUptoRow : OpenClaim := { program := "yteciehfkhmbfeaa", sum := "eafd46bb47f2839bcdb4f3119c196fd3f79a199366128753f2256bb8f6196dc3", func := "cylinder/cylinderlaw31.PointShape", spec := "pointShape", unfollowed := true, recurses := true, named := ["math/bits.overflowError", "math/bits.divideError"], apart := false, narrowed := true }
def PointShapeUptoSaid : Prop := pointShapeUptoRow.holds Try.pinned (OpenSpec.upto pointShapeSpec)

/-- 'cylinderlaw31.PointRationals', WHERE WHAT IT READS IS OF BULK AT MOST 1048576: true; the input reads as it did. -/
def pointRationalsUptoRow : OpenClaim := { program := "yteciehfkhmbfeaa", sum := "eafd46bb47f2839bcdb4f3119c196fd3f79a199366128753f2256bb8f6196dc3", func := "cylinder/cylinderlaw31.PointRationals", spec := "pointRationals", unfollowed := true, recurses := true, named := ["math/bits.overflowError", "math/bits.divideError"], apart := false, narrowed := true }
def PointRationalsUptoSaid : Prop := pointRationalsUptoRow.holds Try.pinned (OpenSpec.upto pointRationalsSpec)

/-- 'cylinderlaw31.PointParts', WHERE WHAT IT READS IS OF BULK AT MOST 1048576: true; the input reads as it did. -/
def pointPartsUptoRow : OpenClaim := { program := "yteciehfkhmbfeaa", sum := "eafd46bb47f2839bcdb4f3119c196fd3f79a199366128753f2256bb8f6196dc3", func := "cylinder/cylinderlaw31.PointParts", spec := "pointParts", unfollowed := true, recurses := true, named := ["math/bits.overflowError", "math/bits.divideError"], apart := false, narrowed := true }
def PointPartsUptoSaid : Prop := pointPartsUptoRow.holds Try.pinned (OpenSpec.upto pointPartsSpec)

/-- 'cylinderlaw31.PointNormal', WHERE WHAT IT READS IS OF BULK AT MOST 1048576: true; the input reads as it did. -/
def pointNormalUptoRow : OpenClaim := { program := "yteciehfkhmbfeaa", sum := "eafd46bb47f2839bcdb4f3119c196fd3f79a199366128753f2256bb8f6196dc3", func := "cylinder/cylinderlaw31.PointNormal", spec := "pointNormal", unfollowed := true, recurses := true, named := ["math/bits.overflowError", "math/bits.divideError"], apart := false, narrowed := true }
def PointNormalUptoSaid : Prop := pointNormalUptoRow.holds Try.pinned (OpenSpec.upto pointNormalSpec)

/-- 'cylinderlaw31.PointEncloses', WHERE WHAT IT READS IS OF BULK AT MOST 1048576: true; the input reads as it did. -/
def pointEnclosesUptoRow : OpenClaim := { program := "yteciehfkhmbfeaa", sum := "eafd46bb47f2839bcdb4f3119c196fd3f79a199366128753f2256bb8f6196dc3", func := "cylinder/cylinderlaw31.PointEncloses", spec := "pointEncloses", unfollowed := true, recurses := true, named := ["math/bits.overflowError", "math/bits.divideError"], apart := false, narrowed := true }
def PointEnclosesUptoSaid : Prop := pointEnclosesUptoRow.holds Try.pinned (OpenSpec.upto pointEnclosesSpec)

/-- 'cylinderlaw31.PointExact', WHERE WHAT IT READS IS OF BULK AT MOST 1048576: true; the input reads as it did. -/
def pointExactUptoRow : OpenClaim := { program := "yteciehfkhmbfeaa", sum := "eafd46bb47f2839bcdb4f3119c196fd3f79a199366128753f2256bb8f6196dc3", func := "cylinder/cylinderlaw31.PointExact", spec := "pointExact", unfollowed := true, recurses := true, named := ["math/bits.overflowError", "math/bits.divideError"], apart := false, narrowed := true }
def PointExactUptoSaid : Prop := pointExactUptoRow.holds Try.pinned (OpenSpec.upto pointExactSpec)

/-- 'cylinderlaw12.HenselReduce', WHERE WHAT IT READS IS OF BULK AT MOST 1048576: true; the input reads as it did. -/
def henselReduceUptoRow : OpenClaim := { program := "yteciehfkhmbfeaa", sum := "eafd46bb47f2839bcdb4f3119c196fd3f79a199366128753f2256bb8f6196dc3", func := "cylinder/cylinderlaw12.HenselReduce", spec := "henselReduce", unfollowed := true, recurses := true, named := ["math/bits.overflowError", "math/bits.divideError"], apart := false, narrowed := true }
def HenselReduceUptoSaid : Prop := henselReduceUptoRow.holds Try.pinned (OpenSpec.upto henselReduceSpec)

/-- 'cylinderlaw12.HenselExponent', WHERE WHAT IT READS IS OF BULK AT MOST 1048576: true; the input reads as it did. -/
def henselExponentUptoRow : OpenClaim := { program := "yteciehfkhmbfeaa", sum := "eafd46bb47f2839bcdb4f3119c196fd3f79a199366128753f2256bb8f6196dc3", func := "cylinder/cylinderlaw12.HenselExponent", spec := "henselExponent", unfollowed := true, recurses := true, named := ["math/bits.overflowError", "math/bits.divideError"], apart := false, narrowed := true }
def HenselExponentUptoSaid : Prop := henselExponentUptoRow.holds Try.pinned (OpenSpec.upto henselExponentSpec)

/-- 'cylinderlaw12.HenselReturns', WHERE WHAT IT READS IS OF BULK AT MOST 1048576: true; the input reads as it did. -/
def henselReturnsUptoRow : OpenClaim := { program := "yteciehfkhmbfeaa", sum := "eafd46bb47f2839bcdb4f3119c196fd3f79a199366128753f2256bb8f6196dc3", func := "cylinder/cylinderlaw12.HenselReturns", spec := "henselReturns", unfollowed := true, recurses := true, named := ["math/bits.overflowError", "math/bits.divideError"], apart := false, narrowed := true }
def HenselReturnsUptoSaid : Prop := henselReturnsUptoRow.holds Try.pinned (OpenSpec.upto henselReturnsSpec)

end Rows
end Go.Proofs.Yteciehfkhmbfeaa
