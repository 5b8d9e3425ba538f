/-
  No cell of these rows narrows 'for every input' (looked for: loops, veiled, ifaces, maps, wideKeys, modest, calm, conditions, laid).
  DERIVED. THE GIVEN ROWS OF THIS SEAT. 9 by the template 'for every input the law returns true; each argument reads behind the call as it read before'; 0 by the template 'total and deterministic' (their statements: YtgpmlhpgdalheaaGreatTotals.lean).
  GIVEN WITH THE SEED: the statements are not yours to turn. If you find one false, say at which input.
  Laid BY PROGRAM, IN A SANDBOX (cutbox-rows.mjs): the forced cells as the released guide's own fill.sh prints them over the translation 0f0648885ee646fd… (all of the seat's roots in one cut). By AI agents, Wed Nov 11 2026. No macro, syntax, notation, axiom, sorry.
-/
import Derived.Test.YtgpmlhpgdalheaaGreatChecked
import GoSem.Claim
import GoSem.ClaimJoined
import GoSem.ClaimMapViews
import Derived.JoinedTies
import Derived.KernelRfl
namespace Go.Proofs.YtgpmlhpgdalheaaGreat
/- THE CELL 'sum', in the pinned program and in every row, IS THE sha256 OF THE DUMP (.gsa) THAT YtgpmlhpgdalheaaGreatProg.lean LOADS. Nothing in Lean hashes anything: it is a label: what it is worth is what the hold of that sum in a sandbox is worth. -/
noncomputable def Tryz.pinned : Pinned := { name := "ytgpmlhpgdalheaagreat", sum := "0f0648885ee646fddf0d1bc9fcdc4eeb8bd8308aff8c80ae94481529e9a59ce3", checked := Tryz.checked }
namespace Rows
def none {H : Type} : Left H := { results := [], args := [] }

/-- 'waveportlaw01.NumRounds': WHATEVER THE INPUT: true; the input reads as it did. -/
def numRoundsSpec : ChangeSpec := { name := "numRounds", fn := fun _ => fun
  | [d1, d2] => { results := [.lit (.bool true)], args := [d1, d2] }
  | _ => none }
def numRoundsRow : OpenClaim := { program := "ytgpmlhpgdalheaagreat", sum := "0f0648885ee646fddf0d1bc9fcdc4eeb8bd8308aff8c80ae94481529e9a59ce3", func := "waveport/waveportlaw01.NumRounds", spec := "numRounds", inPlace := ["math.Float64bits", "math.Float64frombits", "math.Float32bits"], unfollowed := true, recurses := true, named := ["math/bits.overflowError"], apart := false }
def NumRoundsSaid : Prop := numRoundsRow.holds Tryz.pinned (OpenSpec.ofChange numRoundsSpec)

/-- ITS FALSE NEIGHBOUR: 'it returns false'. Refute it at one input. -/
def numRoundsWrong : ChangeSpec := { name := "numRounds", fn := fun _ => fun
  | [d1, d2] => { results := [.lit (.bool false)], args := [d1, d2] }
  | _ => none }
def NumRoundsWrongFalsely : Prop := numRoundsRow.holds Tryz.pinned (OpenSpec.ofChange numRoundsWrong)

/-- 'waveportlaw01.NumScript': WHATEVER THE INPUT: true; the input reads as it did. -/
def numScriptSpec : ChangeSpec := { name := "numScript", fn := fun _ => fun
  | [d1, d2] => { results := [.lit (.bool true)], args := [d1, d2] }
  | _ => none }
def numScriptRow : OpenClaim := { program := "ytgpmlhpgdalheaagreat", sum := "0f0648885ee646fddf0d1bc9fcdc4eeb8bd8308aff8c80ae94481529e9a59ce3", func := "waveport/waveportlaw01.NumScript", spec := "numScript", inPlace := ["math.Float64bits", "math.Float64frombits"], unfollowed := true, recurses := true, named := ["math/bits.overflowError"], apart := false }
def NumScriptSaid : Prop := numScriptRow.holds Tryz.pinned (OpenSpec.ofChange numScriptSpec)

/-- ITS FALSE NEIGHBOUR: 'it returns false'. Refute it at one input. -/
def numScriptWrong : ChangeSpec := { name := "numScript", fn := fun _ => fun
  | [d1, d2] => { results := [.lit (.bool false)], args := [d1, d2] }
  | _ => none }
def NumScriptWrongFalsely : Prop := numScriptRow.holds Tryz.pinned (OpenSpec.ofChange numScriptWrong)

/-- 'waveportlaw01.NumFloor': WHATEVER THE INPUT: true; the input reads as it did. -/
def numFloorSpec : ChangeSpec := { name := "numFloor", fn := fun _ => fun
  | [d1, d2, d3] => { results := [.lit (.bool true)], args := [d1, d2, d3] }
  | _ => none }
def numFloorRow : OpenClaim := { program := "ytgpmlhpgdalheaagreat", sum := "0f0648885ee646fddf0d1bc9fcdc4eeb8bd8308aff8c80ae94481529e9a59ce3", func := "waveport/waveportlaw01.NumFloor", spec := "numFloor", inPlace := ["math.Float64bits", "math.Float64frombits"], unfollowed := true, recurses := true, named := ["math/bits.overflowError"], apart := false }
def NumFloorSaid : Prop := numFloorRow.holds Tryz.pinned (OpenSpec.ofChange numFloorSpec)

/-- ITS FALSE NEIGHBOUR: 'it returns false'. Refute it at one input. -/
def numFloorWrong : ChangeSpec := { name := "numFloor", fn := fun _ => fun
  | [d1, d2, d3] => { results := [.lit (.bool false)], args := [d1, d2, d3] }
  | _ => none }
def NumFloorWrongFalsely : Prop := numFloorRow.holds Tryz.pinned (OpenSpec.ofChange numFloorWrong)

/-- 'waveportlaw01.NumFloats': WHATEVER THE INPUT: true; the input reads as it did. -/
def numFloatsSpec : ChangeSpec := { name := "numFloats", fn := fun _ => fun
  | [d1, d2] => { results := [.lit (.bool true)], args := [d1, d2] }
  | _ => none }
def numFloatsRow : OpenClaim := { program := "ytgpmlhpgdalheaagreat", sum := "0f0648885ee646fddf0d1bc9fcdc4eeb8bd8308aff8c80ae94481529e9a59ce3", func := "waveport/waveportlaw01.NumFloats", spec := "numFloats", inPlace := ["math.Float64frombits", "math.Float64bits"], unfollowed := true, recurses := true, named := ["math/bits.overflowError"], apart := false }
def NumFloatsSaid : Prop := numFloatsRow.holds Tryz.pinned (OpenSpec.ofChange numFloatsSpec)

/-- ITS FALSE NEIGHBOUR: 'it returns false'. Refute it at one input. -/
def numFloatsWrong : ChangeSpec := { name := "numFloats", fn := fun _ => fun
  | [d1, d2] => { results := [.lit (.bool false)], args := [d1, d2] }
  | _ => none }
def NumFloatsWrongFalsely : Prop := numFloatsRow.holds Tryz.pinned (OpenSpec.ofChange numFloatsWrong)

/-- 'waveportlaw01.NumFloats32': WHATEVER THE INPUT: true; the input reads as it did. -/
def numFloats32Spec : ChangeSpec := { name := "numFloats32", fn := fun _ => fun
  | [d1, d2] => { results := [.lit (.bool true)], args := [d1, d2] }
  | _ => none }
def numFloats32Row : OpenClaim := { program := "ytgpmlhpgdalheaagreat", sum := "0f0648885ee646fddf0d1bc9fcdc4eeb8bd8308aff8c80ae94481529e9a59ce3", func := "waveport/waveportlaw01.NumFloats32", spec := "numFloats32", inPlace := ["math.Float32frombits", "math.Float64bits", "math.Float64frombits"], unfollowed := true, recurses := true, named := ["math/bits.overflowError"], apart := false }
def NumFloats32Said : Prop := numFloats32Row.holds Tryz.pinned (OpenSpec.ofChange numFloats32Spec)

/-- ITS FALSE NEIGHBOUR: 'it returns false'. Refute it at one input. -/
def numFloats32Wrong : ChangeSpec := { name := "numFloats32", fn := fun _ => fun
  | [d1, d2] => { results := [.lit (.bool false)], args := [d1, d2] }
  | _ => none }
def NumFloats32WrongFalsely : Prop := numFloats32Row.holds Tryz.pinned (OpenSpec.ofChange numFloats32Wrong)

/-- 'waveportlaw01.NumDirected': WHATEVER THE INPUT: true; the input reads as it did. -/
def numDirectedSpec : ChangeSpec := { name := "numDirected", fn := fun _ => fun
  | [d1, d2] => { results := [.lit (.bool true)], args := [d1, d2] }
  | _ => none }
def numDirectedRow : OpenClaim := { program := "ytgpmlhpgdalheaagreat", sum := "0f0648885ee646fddf0d1bc9fcdc4eeb8bd8308aff8c80ae94481529e9a59ce3", func := "waveport/waveportlaw01.NumDirected", spec := "numDirected", inPlace := ["math.Float64bits", "math.Float64frombits"], unfollowed := true, recurses := true, named := ["math/bits.overflowError"], apart := false }
def NumDirectedSaid : Prop := numDirectedRow.holds Tryz.pinned (OpenSpec.ofChange numDirectedSpec)

/-- ITS FALSE NEIGHBOUR: 'it returns false'. Refute it at one input. -/
def numDirectedWrong : ChangeSpec := { name := "numDirected", fn := fun _ => fun
  | [d1, d2] => { results := [.lit (.bool false)], args := [d1, d2] }
  | _ => none }
def NumDirectedWrongFalsely : Prop := numDirectedRow.holds Tryz.pinned (OpenSpec.ofChange numDirectedWrong)

/-- 'waveportlaw01.NumRoots': WHATEVER THE INPUT: true; the input reads as it did. -/
def numRootsSpec : ChangeSpec := { name := "numRoots", fn := fun _ => fun
  | [d1, d2] => { results := [.lit (.bool true)], args := [d1, d2] }
  | _ => none }
def numRootsRow : OpenClaim := { program := "ytgpmlhpgdalheaagreat", sum := "0f0648885ee646fddf0d1bc9fcdc4eeb8bd8308aff8c80ae94481529e9a59ce3", func := "waveport/waveportlaw01.NumRoots", spec := "numRoots", inPlace := ["math.Float64bits", "math.Float64frombits"], unfollowed := true, recurses := true, named := ["math/bits.overflowError"], apart := false }
def NumRootsSaid : Prop := numRootsRow.holds Tryz.pinned (OpenSpec.ofChange numRootsSpec)

/-- ITS FALSE NEIGHBOUR: 'it returns false'. Refute it at one input. -/
def numRootsWrong : ChangeSpec := { name := "numRoots", fn := fun _ => fun
  | [d1, d2] => { results := [.lit (.bool false)], args := [d1, d2] }
  | _ => none }
def NumRootsWrongFalsely : Prop := numRootsRow.holds Tryz.pinned (OpenSpec.ofChange numRootsWrong)

/-- 'waveportlaw01.NumProducts': WHATEVER THE INPUT: true; the input reads as it did. -/
def numProductsSpec : ChangeSpec := { name := "numProducts", fn := fun _ => fun
  | [d1, d2, d3] => { results := [.lit (.bool true)], args := [d1, d2, d3] }
  | _ => none }
def numProductsRow : OpenClaim := { program := "ytgpmlhpgdalheaagreat", sum := "0f0648885ee646fddf0d1bc9fcdc4eeb8bd8308aff8c80ae94481529e9a59ce3", func := "waveport/waveportlaw01.NumProducts", spec := "numProducts", inPlace := ["math.Float64bits", "math.Float64frombits"], unfollowed := true, recurses := true, named := ["math/bits.overflowError"], apart := false }
def NumProductsSaid : Prop := numProductsRow.holds Tryz.pinned (OpenSpec.ofChange numProductsSpec)

/-- ITS FALSE NEIGHBOUR: 'it returns false'. Refute it at one input. -/
def numProductsWrong : ChangeSpec := { name := "numProducts", fn := fun _ => fun
  | [d1, d2, d3] => { results := [.lit (.bool false)], args := [d1, d2, d3] }
  | _ => none }
def NumProductsWrongFalsely : Prop := numProductsRow.holds Tryz.pinned (OpenSpec.ofChange numProductsWrong)

/-- 'waveportlaw01.NumParse': WHATEVER THE INPUT: true; the input reads as it did. -/
def numParseSpec : ChangeSpec := { name := "numParse", fn := fun _ => fun
  | [d] => { results := [.lit (.bool true)], args := [d] }
  | _ => none }
def numParseRow : OpenClaim := { program := "ytgpmlhpgdalheaagreat", sum := "0f0648885ee646fddf0d1bc9fcdc4eeb8bd8308aff8c80ae94481529e9a59ce3", func := "waveport/waveportlaw01.NumParse", spec := "numParse", inPlace := ["math.Float64bits", "math.Float64frombits"], unfollowed := true, recurses := true, named := ["math/bits.overflowError"], apart := false }
def NumParseSaid : Prop := numParseRow.holds Tryz.pinned (OpenSpec.ofChange numParseSpec)

/-- ITS FALSE NEIGHBOUR: 'it returns false'. Refute it at one input. -/
def numParseWrong : ChangeSpec := { name := "numParse", fn := fun _ => fun
  | [d] => { results := [.lit (.bool false)], args := [d] }
  | _ => none }
def NumParseWrongFalsely : Prop := numParseRow.holds Tryz.pinned (OpenSpec.ofChange numParseWrong)

/- THE SECOND FORM. 'bulk': how many values and letters a reading holds, each counted each time it is reached (what is shared counts as often as it is met; a slice's spare places count too). A statement '..UptoSaid' is the law's where the arguments, and the package variables that the reading takes, are together of bulk at most 1048576: NARROWER than '..Said'. Prove '..Said' where nothing that the law and all that it calls make is longer than what came in: it says more and counts as full. Else prove '..UptoSaid'. A law counts once. -/
mutual
def uptoBulk {H : Type} : DataW H → Nat
  | .lit (.string bytes) => bytes.length + 1
  | .lit _ => 1
  | .nil => 1
  | .ptr d => uptoBulk d + 1
  | .slice elems spare => uptoBulkAll elems + uptoBulkAll spare + 1
  | .agg parts => uptoBulkAll parts + 1
  | .iface _ d => uptoBulk d + 1
  | .map entries => uptoBulkEntries entries + 1
  | .held _ => 1
def uptoBulkAll {H : Type} : List (DataW H) → Nat
  | [] => 0
  | d :: r => uptoBulk d + uptoBulkAll r
def uptoBulkEntries {H : Type} : List (Lit × DataW H) → Nat
  | [] => 0
  | x :: r => uptoBulkEntry x + uptoBulkEntries r
def uptoBulkEntry {H : Type} : Lit × DataW H → Nat
  | (.string bytes, d) => bytes.length + uptoBulk d + 1
  | (_, d) => uptoBulk d + 1
 end
def uptoSmall : (H : Type) → List (DataW H) → Bool := fun _ ds => decide (uptoBulkAll ds ≤ 1048576)
def OpenSpec.upto (s : _root_.Go.ChangeSpec) : _root_.Go.OpenSpec := { _root_.Go.OpenSpec.ofChange s with cond := some uptoSmall }

/-- 'waveportlaw01.NumRounds', WHERE WHAT IT READS IS OF BULK AT MOST 1048576: true; the input reads as it did. -/
def numRoundsUptoRow : OpenClaim := { program := "ytgpmlhpgdalheaagreat", sum := "0f0648885ee646fddf0d1bc9fcdc4eeb8bd8308aff8c80ae94481529e9a59ce3", func := "waveport/waveportlaw01.NumRounds", spec := "numRounds", inPlace := ["math.Float64bits", "math.Float64frombits", "math.Float32bits"], unfollowed := true, recurses := true, named := ["math/bits.overflowError"], apart := false, narrowed := true }
def NumRoundsUptoSaid : Prop := numRoundsUptoRow.holds Tryz.pinned (OpenSpec.upto numRoundsSpec)

/-- 'waveportlaw01.NumScript', WHERE WHAT IT READS IS OF BULK AT MOST 1048576: true; the input reads as it did. -/
def numScriptUptoRow : OpenClaim := { program := "ytgpmlhpgdalheaagreat", sum := "0f0648885ee646fddf0d1bc9fcdc4eeb8bd8308aff8c80ae94481529e9a59ce3", func := "waveport/waveportlaw01.NumScript", spec := "numScript", inPlace := ["math.Float64bits", "math.Float64frombits"], unfollowed := true, recurses := true, named := ["math/bits.overflowError"], apart := false, narrowed := true }
def NumScriptUptoSaid : Prop := numScriptUptoRow.holds Tryz.pinned (OpenSpec.upto numScriptSpec)

/-- 'waveportlaw01.NumFloor', WHERE WHAT IT READS IS OF BULK AT MOST 1048576: true; the input reads as it did. -/
def numFloorUptoRow : OpenClaim := { program := "ytgpmlhpgdalheaagreat", sum := "0f0648885ee646fddf0d1bc9fcdc4eeb8bd8308aff8c80ae94481529e9a59ce3", func := "waveport/waveportlaw01.NumFloor", spec := "numFloor", inPlace := ["math.Float64bits", "math.Float64frombits"], unfollowed := true, recurses := true, named := ["math/bits.overflowError"], apart := false, narrowed := true }
def NumFloorUptoSaid : Prop := numFloorUptoRow.holds Tryz.pinned (OpenSpec.upto numFloorSpec)

/-- 'waveportlaw01.NumFloats', WHERE WHAT IT READS IS OF BULK AT MOST 1048576: true; the input reads as it did. -/
def numFloatsUptoRow : OpenClaim := { program := "ytgpmlhpgdalheaagreat", sum := "0f0648885ee646fddf0d1bc9fcdc4eeb8bd8308aff8c80ae94481529e9a59ce3", func := "waveport/waveportlaw01.NumFloats", spec := "numFloats", inPlace := ["math.Float64frombits", "math.Float64bits"], unfollowed := true, recurses := true, named := ["math/bits.overflowError"], apart := false, narrowed := true }
def NumFloatsUptoSaid : Prop := numFloatsUptoRow.holds Tryz.pinned (OpenSpec.upto numFloatsSpec)

/-- 'waveportlaw01.NumFloats32', WHERE WHAT IT READS IS OF BULK AT MOST 1048576: true; the input reads as it did. -/
def numFloats32UptoRow : OpenClaim := { program := "ytgpmlhpgdalheaagreat", sum := "0f0648885ee646fddf0d1bc9fcdc4eeb8bd8308aff8c80ae94481529e9a59ce3", func := "waveport/waveportlaw01.NumFloats32", spec := "numFloats32", inPlace := ["math.Float32frombits", "math.Float64bits", "math.Float64frombits"], unfollowed := true, recurses := true, named := ["math/bits.overflowError"], apart := false, narrowed := true }
def NumFloats32UptoSaid : Prop := numFloats32UptoRow.holds Tryz.pinned (OpenSpec.upto numFloats32Spec)

/-- 'waveportlaw01.NumDirected', WHERE WHAT IT READS IS OF BULK AT MOST 1048576: true; the input reads as it did. -/
def numDirectedUptoRow : OpenClaim := { program := "ytgpmlhpgdalheaagreat", sum := "0f0648885ee646fddf0d1bc9fcdc4eeb8bd8308aff8c80ae94481529e9a59ce3", func := "waveport/waveportlaw01.NumDirected", spec := "numDirected", inPlace := ["math.Float64bits", "math.Float64frombits"], unfollowed := true, recurses := true, named := ["math/bits.overflowError"], apart := false, narrowed := true }
def NumDirectedUptoSaid : Prop := numDirectedUptoRow.holds Tryz.pinned (OpenSpec.upto numDirectedSpec)

/-- 'waveportlaw01.NumRoots', WHERE WHAT IT READS IS OF BULK AT MOST 1048576: true; the input reads as it did. -/
def numRootsUptoRow : OpenClaim := { program := "ytgpmlhpgdalheaagreat", sum := "0f0648885ee646fddf0d1bc9fcdc4eeb8bd8308aff8c80ae94481529e9a59ce3", func := "waveport/waveportlaw01.NumRoots", spec := "numRoots", inPlace := ["math.Float64bits", "math.Float64frombits"], unfollowed := true, recurses := true, named := ["math/bits.overflowError"], apart := false, narrowed := true }
def NumRootsUptoSaid : Prop := numRootsUptoRow.holds Tryz.pinned (OpenSpec.upto numRootsSpec)

/-- 'waveportlaw01.NumProducts', WHERE WHAT IT READS IS OF BULK AT MOST 1048576: true; the input reads as it did. -/
def numProductsUptoRow : OpenClaim := { program := "ytgpmlhpgdalheaagreat", sum := "0f0648885ee646fddf0d1bc9fcdc4eeb8bd8308aff8c80ae94481529e9a59ce3", func := "waveport/waveportlaw01.NumProducts", spec := "numProducts", inPlace := ["math.Float64bits", "math.Float64frombits"], unfollowed := true, recurses := true, named := ["math/bits.overflowError"], apart := false, narrowed := true }
def NumProductsUptoSaid : Prop := numProductsUptoRow.holds Tryz.pinned (OpenSpec.upto numProductsSpec)

/-- 'waveportlaw01.NumParse', WHERE WHAT IT READS IS OF BULK AT MOST 1048576: true; the input reads as it did. -/
def numParseUptoRow : OpenClaim := { program := "ytgpmlhpgdalheaagreat", sum := "0f0648885ee646fddf0d1bc9fcdc4eeb8bd8308aff8c80ae94481529e9a59ce3", func := "waveport/waveportlaw01.NumParse", spec := "numParse", inPlace := ["math.Float64bits", "math.Float64frombits"], unfollowed := true, recurses := true, named := ["math/bits.overflowError"], apart := false, narrowed := true }
def NumParseUptoSaid : Prop := numParseUptoRow.holds Tryz.pinned (OpenSpec.upto numParseSpec)

end Rows
end Go.Proofs.YtgpmlhpgdalheaaGreat
