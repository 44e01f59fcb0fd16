/-
  NARROWER THAN 'FOR EVERY INPUT', by the rows' own cells (each row's printed sentence says how): TestpointErrors: loops.
  DERIVED. THE GIVEN ROWS OF THIS SEAT. 3 by the template 'for every input the law returns true; each argument reads behind the call as it read before'; 0 by the template 'total and deterministic' (their statements: YteciehfkhmbfeaaGreatTotals.lean).
  GIVEN WITH THE SEED: the statements are not yours to turn. If you find one false, say at which input.
  Laid BY PROGRAM, IN A SANDBOX (cutbox-rows.mjs): the forced cells as the released guide's own fill.sh prints them over the translation cfe3e85e5feed064… (all of the seat's roots in one cut). By AI agents, Wed Nov 11 2026. No macro, syntax, notation, axiom, sorry.
-/
import Derived.Test.YteciehfkhmbfeaaGreatChecked
import GoSem.Claim
import GoSem.ClaimJoined
import GoSem.ClaimMapViews
import Derived.JoinedTies
import Derived.KernelRfl
namespace Go.Proofs.YteciehfkhmbfeaaGreat
/- THE CELL 'sum', in the pinned program and in every row, IS THE sha256 OF THE DUMP (.gsa) THAT YteciehfkhmbfeaaGreatProg.lean LOADS. Nothing in Lean hashes anything: it is a label: what it is worth is what the hold of that sum in a sandbox is worth. -/
noncomputable def Tryz.pinned : Pinned := { name := "yteciehfkhmbfeaagreat", sum := "cfe3e85e5feed06409227e42f3bd200f8dee1528be1b0ee81bf61f0202e36523", checked := Tryz.checked }
namespace Rows
def none {H : Type} : Left H := { results := [], args := [] }

/-- 'cylinderlaw31.PointShrinks': WHATEVER THE INPUT: true; the input reads as it did. -/
def pointShrinksSpec : ChangeSpec := { name := "pointShrinks", fn := fun _ => fun
  | [d1, d2, d3] => { results := [.lit (.bool true)], args := [d1, d2, d3] }
  | _ => none }
def pointShrinksRow : OpenClaim := { program := "yteciehfkhmbfeaagreat", sum := "cfe3e85e5feed06409227e42f3bd200f8dee1528be1b0ee81bf61f0202e36523", func := "cylinder/cylinderlaw31.PointShrinks", spec := "pointShrinks", unfollowed := true, recurses := true, named := ["math/bits.overflowError", "math/bits.divideError"], apart := false }
def PointShrinksSaid : Prop := pointShrinksRow.holds Tryz.pinned (OpenSpec.ofChange pointShrinksSpec)

/-- ITS FALSE NEIGHBOUR: 'it returns false'. Refute it at one input. -/
def pointShrinksWrong : ChangeSpec := { name := "pointShrinks", fn := fun _ => fun
  | [d1, d2, d3] => { results := [.lit (.bool false)], args := [d1, d2, d3] }
  | _ => none }
def PointShrinksWrongFalsely : Prop := pointShrinksRow.holds Tryz.pinned (OpenSpec.ofChange pointShrinksWrong)

/-- 'cylinderlaw52.TestpointErrors': WHATEVER THE INPUT: true; the input reads as it did. -/
def testpointErrorsSpec : ChangeSpec := { name := "testpointErrors", fn := fun _ => fun
  | [d1, d2, d3] => { results := [.lit (.bool true)], args := [d1, d2, d3] }
  | _ => none }
def testpointErrorsRow : OpenClaim := { program := "yteciehfkhmbfeaagreat", sum := "cfe3e85e5feed06409227e42f3bd200f8dee1528be1b0ee81bf61f0202e36523", func := "cylinder/cylinderlaw52.TestpointErrors", spec := "testpointErrors", unfollowed := true, recurses := true, loops := true, apart := false }
def TestpointErrorsSaid : Prop := testpointErrorsRow.holds Tryz.pinned (OpenSpec.ofChange testpointErrorsSpec)

/-- ITS FALSE NEIGHBOUR: 'it returns false'. Refute it at one input. -/
def testpointErrorsWrong : ChangeSpec := { name := "testpointErrors", fn := fun _ => fun
  | [d1, d2, d3] => { results := [.lit (.bool false)], args := [d1, d2, d3] }
  | _ => none }
def TestpointErrorsWrongFalsely : Prop := testpointErrorsRow.holds Tryz.pinned (OpenSpec.ofChange testpointErrorsWrong)

/-- 'cylinderlaw12.HenselBound': WHATEVER THE INPUT: true; the input reads as it did. -/
def henselBoundSpec : ChangeSpec := { name := "henselBound", fn := fun _ => fun
  | [d1, d2] => { results := [.lit (.bool true)], args := [d1, d2] }
  | _ => none }
def henselBoundRow : OpenClaim := { program := "yteciehfkhmbfeaagreat", sum := "cfe3e85e5feed06409227e42f3bd200f8dee1528be1b0ee81bf61f0202e36523", func := "cylinder/cylinderlaw12.HenselBound", spec := "henselBound", unfollowed := true, recurses := true, named := ["math/bits.overflowError", "math/bits.divideError"], apart := false }
def HenselBoundSaid : Prop := henselBoundRow.holds Tryz.pinned (OpenSpec.ofChange henselBoundSpec)

/-- ITS FALSE NEIGHBOUR: 'it returns false'. Refute it at one input. -/
def henselBoundWrong : ChangeSpec := { name := "henselBound", fn := fun _ => fun
  | [d1, d2] => { results := [.lit (.bool false)], args := [d1, d2] }
  | _ => none }
def HenselBoundWrongFalsely : Prop := henselBoundRow.holds Tryz.pinned (OpenSpec.ofChange henselBoundWrong)

/- THE SECOND FORM. 'bulk': how many values and letters a reading holds, each counted each time it is reached (what is shared counts as often as it is met; a slice's spare places count too). A statement '..UptoSaid' is the law's where the arguments, and the package variables that the reading takes, are together of bulk at most 1048576: NARROWER than '..Said'. Prove '..Said' where nothing that the law and all that it calls make is longer than what came in: it says more and counts as full. Else prove '..UptoSaid'. A law counts once. -/
mutual
def uptoBulk {H : Type} : DataW H → Nat
  | .lit (.string bytes) => bytes.length + 1
  | .lit _ => 1
  | .nil => 1
  | .ptr d => uptoBulk d + 1
  | .slice elems spare => uptoBulkAll elems + uptoBulkAll spare + 1
  | .agg parts => uptoBulkAll parts + 1
  | .iface _ d => uptoBulk d + 1
  | .map entries => uptoBulkEntries entries + 1
  | .held _ => 1
def uptoBulkAll {H : Type} : List (DataW H) → Nat
  | [] => 0
  | d :: r => uptoBulk d + uptoBulkAll r
def uptoBulkEntries {H : Type} : List (Lit × DataW H) → Nat
  | [] => 0
  | x :: r => uptoBulkEntry x + uptoBulkEntries r
def uptoBulkEntry {H : Type} : Lit × DataW H → Nat
  | (.string bytes, d) => bytes.length + uptoBulk d + 1
  | (_, d) => uptoBulk d + 1
 end
def uptoSmall : (H : Type) → List (DataW H) → Bool := fun _ ds => decide (uptoBulkAll ds ≤ 1048576)
def OpenSpec.upto (s : _root_.Go.ChangeSpec) : _root_.Go.OpenSpec := { _root_.Go.OpenSpec.ofChange s with cond := some uptoSmall }

/-- 'cylinderlaw31.PointShrinks', WHERE WHAT IT READS IS OF BULK AT MOST 1048576: true; the input reads as it did. -/
def pointShrinksUptoRow : OpenClaim := { program := "yteciehfkhmbfeaagreat", sum := "cfe3e85e5feed06409227e42f3bd200f8dee1528be1b0ee81bf61f0202e36523", func := "cylinder/cylinderlaw31.PointShrinks", spec := "pointShrinks", unfollowed := true, recurses := true, named := ["math/bits.overflowError", "math/bits.divideError"], apart := false, narrowed := true }
def PointShrinksUptoSaid : Prop := pointShrinksUptoRow.holds Tryz.pinned (OpenSpec.upto pointShrinksSpec)

/-- 'cylinderlaw52.TestpointErrors', WHERE WHAT IT READS IS OF BULK AT MOST 1048576: true; the input reads as it did. -/
def testpointErrorsUptoRow : OpenClaim := { program := "yteciehfkhmbfeaagreat", sum := "cfe3e85e5feed06409227e42f3bd200f8dee1528be1b0ee81bf61f0202e36523", func := "cylinder/cylinderlaw52.TestpointErrors", spec := "testpointErrors", unfollowed := true, recurses := true, loops := true, apart := false, narrowed := true }
def TestpointErrorsUptoSaid : Prop := testpointErrorsUptoRow.holds Tryz.pinned (OpenSpec.upto testpointErrorsSpec)

/-- 'cylinderlaw12.HenselBound', WHERE WHAT IT READS IS OF BULK AT MOST 1048576: true; the input reads as it did. -/
def henselBoundUptoRow : OpenClaim := { program := "yteciehfkhmbfeaagreat", sum := "cfe3e85e5feed06409227e42f3bd200f8dee1528be1b0ee81bf61f0202e36523", func := "cylinder/cylinderlaw12.HenselBound", spec := "henselBound", unfollowed := true, recurses := true, named := ["math/bits.overflowError", "math/bits.divideError"], apart := false, narrowed := true }
def HenselBoundUptoSaid : Prop := henselBoundUptoRow.holds Tryz.pinned (OpenSpec.upto henselBoundSpec)

end Rows
end Go.Proofs.YteciehfkhmbfeaaGreat
