/-
  No cell of these rows narrows 'for every input' (looked for: loops, veiled, ifaces, maps, wideKeys, modest, calm, conditions, laid).
  DERIVED. THE GIVEN ROWS OF THIS SEAT. 4 by the template 'for every input the law returns true; each argument reads behind the call as it read before'; 0 by the template 'total and deterministic' (their statements: YtdpjknjlhchmcaaGreatTotals.lean).
  GIVEN WITH THE SEED: the statements are not yours to turn. If you find one false, say at which input.
  Laid BY PROGRAM, IN A SANDBOX (cutbox-rows.mjs): the forced cells as the released guide's own fill.sh prints them over the translation 31d559a5e8d3233e… (all of the seat's roots in one cut). By AI agents, Wed Nov 11 2026. No macro, syntax, notation, axiom, sorry.
-/
import Derived.Test.YtdpjknjlhchmcaaGreatChecked
import GoSem.Claim
import GoSem.ClaimJoined
import GoSem.ClaimMapViews
import Derived.JoinedTies
import Derived.KernelRfl
namespace Go.Proofs.YtdpjknjlhchmcaaGreat
/- THE CELL 'sum', in the pinned program and in every row, IS THE sha256 OF THE DUMP (.gsa) THAT YtdpjknjlhchmcaaGreatProg.lean LOADS. Nothing in Lean hashes anything: it is a label: what it is worth is what the hold of that sum in a sandbox is worth. -/
noncomputable def Tryz.pinned : Pinned := { name := "ytdpjknjlhchmcaagreat", sum := "31d559a5e8d3233eaeae16e392b06b27a8fa016384941c0644c7373d790e34b3", checked := Tryz.checked }
namespace Rows
def none {H : Type} : Left H := { results := [], args := [] }

/-- 'waveportlaw01.NumLeast': WHATEVER THE INPUT: true; the input reads as it did. -/
def numLeastSpec : ChangeSpec := { name := "numLeast", fn := fun _ => fun
  | [d1, d2] => { results := [.lit (.bool true)], args := [d1, d2] }
  | _ => none }
def numLeastRow : OpenClaim := { program := "ytdpjknjlhchmcaagreat", sum := "31d559a5e8d3233eaeae16e392b06b27a8fa016384941c0644c7373d790e34b3", func := "waveport/waveportlaw01.NumLeast", spec := "numLeast", inPlace := ["math.Float64bits", "math.Float64frombits"], unfollowed := true, recurses := true, named := ["math/bits.overflowError"], apart := false }
def NumLeastSaid : Prop := numLeastRow.holds Tryz.pinned (OpenSpec.ofChange numLeastSpec)

/-- ITS FALSE NEIGHBOUR: 'it returns false'. Refute it at one input. -/
def numLeastWrong : ChangeSpec := { name := "numLeast", fn := fun _ => fun
  | [d1, d2] => { results := [.lit (.bool false)], args := [d1, d2] }
  | _ => none }
def NumLeastWrongFalsely : Prop := numLeastRow.holds Tryz.pinned (OpenSpec.ofChange numLeastWrong)

/-- 'waveportlaw01.NumProducts': WHATEVER THE INPUT: true; the input reads as it did. -/
def numProductsSpec : ChangeSpec := { name := "numProducts", fn := fun _ => fun
  | [d1, d2, d3] => { results := [.lit (.bool true)], args := [d1, d2, d3] }
  | _ => none }
def numProductsRow : OpenClaim := { program := "ytdpjknjlhchmcaagreat", sum := "31d559a5e8d3233eaeae16e392b06b27a8fa016384941c0644c7373d790e34b3", func := "waveport/waveportlaw01.NumProducts", spec := "numProducts", inPlace := ["math.Float64bits", "math.Float64frombits"], unfollowed := true, recurses := true, named := ["math/bits.overflowError"], apart := false }
def NumProductsSaid : Prop := numProductsRow.holds Tryz.pinned (OpenSpec.ofChange numProductsSpec)

/-- ITS FALSE NEIGHBOUR: 'it returns false'. Refute it at one input. -/
def numProductsWrong : ChangeSpec := { name := "numProducts", fn := fun _ => fun
  | [d1, d2, d3] => { results := [.lit (.bool false)], args := [d1, d2, d3] }
  | _ => none }
def NumProductsWrongFalsely : Prop := numProductsRow.holds Tryz.pinned (OpenSpec.ofChange numProductsWrong)

/-- 'waveportlaw01.NumSystems': WHATEVER THE INPUT: true; the input reads as it did. -/
def numSystemsSpec : ChangeSpec := { name := "numSystems", fn := fun _ => fun
  | [d1, d2] => { results := [.lit (.bool true)], args := [d1, d2] }
  | _ => none }
def numSystemsRow : OpenClaim := { program := "ytdpjknjlhchmcaagreat", sum := "31d559a5e8d3233eaeae16e392b06b27a8fa016384941c0644c7373d790e34b3", func := "waveport/waveportlaw01.NumSystems", spec := "numSystems", inPlace := ["math.Float64bits", "math.Float64frombits"], unfollowed := true, recurses := true, named := ["math/bits.overflowError"], apart := false }
def NumSystemsSaid : Prop := numSystemsRow.holds Tryz.pinned (OpenSpec.ofChange numSystemsSpec)

/-- ITS FALSE NEIGHBOUR: 'it returns false'. Refute it at one input. -/
def numSystemsWrong : ChangeSpec := { name := "numSystems", fn := fun _ => fun
  | [d1, d2] => { results := [.lit (.bool false)], args := [d1, d2] }
  | _ => none }
def NumSystemsWrongFalsely : Prop := numSystemsRow.holds Tryz.pinned (OpenSpec.ofChange numSystemsWrong)

/-- 'waveportlaw01.NumDefinite': WHATEVER THE INPUT: true; the input reads as it did. -/
def numDefiniteSpec : ChangeSpec := { name := "numDefinite", fn := fun _ => fun
  | [d1, d2] => { results := [.lit (.bool true)], args := [d1, d2] }
  | _ => none }
def numDefiniteRow : OpenClaim := { program := "ytdpjknjlhchmcaagreat", sum := "31d559a5e8d3233eaeae16e392b06b27a8fa016384941c0644c7373d790e34b3", func := "waveport/waveportlaw01.NumDefinite", spec := "numDefinite", inPlace := ["math.Float64bits", "math.Float64frombits"], unfollowed := true, recurses := true, named := ["math/bits.overflowError"], apart := false }
def NumDefiniteSaid : Prop := numDefiniteRow.holds Tryz.pinned (OpenSpec.ofChange numDefiniteSpec)

/-- ITS FALSE NEIGHBOUR: 'it returns false'. Refute it at one input. -/
def numDefiniteWrong : ChangeSpec := { name := "numDefinite", fn := fun _ => fun
  | [d1, d2] => { results := [.lit (.bool false)], args := [d1, d2] }
  | _ => none }
def NumDefiniteWrongFalsely : Prop := numDefiniteRow.holds Tryz.pinned (OpenSpec.ofChange numDefiniteWrong)

/- THE SECOND FORM. 'bulk': how many values and letters a reading holds, each counted each time it is reached (what is shared counts as often as it is met; a slice's spare places count too). A statement '..UptoSaid' is the law's where the arguments, and the package variables that the reading takes, are together of bulk at most 1048576: NARROWER than '..Said'. Prove '..Said' where nothing that the law and all that it calls make is longer than what came in: it says more and counts as full. Else prove '..UptoSaid'. A law counts once. -/
mutual
def uptoBulk {H : Type} : DataW H → Nat
  | .lit (.string bytes) => bytes.length + 1
  | .lit _ => 1
  | .nil => 1
  | .ptr d => uptoBulk d + 1
  | .slice elems spare => uptoBulkAll elems + uptoBulkAll spare + 1
  | .agg parts => uptoBulkAll parts + 1
  | .iface _ d => uptoBulk d + 1
  | .map entries => uptoBulkEntries entries + 1
  | .held _ => 1
def uptoBulkAll {H : Type} : List (DataW H) → Nat
  | [] => 0
  | d :: r => uptoBulk d + uptoBulkAll r
def uptoBulkEntries {H : Type} : List (Lit × DataW H) → Nat
  | [] => 0
  | x :: r => uptoBulkEntry x + uptoBulkEntries r
def uptoBulkEntry {H : Type} : Lit × DataW H → Nat
  | (.string bytes, d) => bytes.length + uptoBulk d + 1
  | (_, d) => uptoBulk d + 1
 end
def uptoSmall : (H : Type) → List (DataW H) → Bool := fun _ ds => decide (uptoBulkAll ds ≤ 1048576)
def OpenSpec.upto (s : _root_.Go.ChangeSpec) : _root_.Go.OpenSpec := { _root_.Go.OpenSpec.ofChange s with cond := some uptoSmall }

/-- 'waveportlaw01.NumLeast', WHERE WHAT IT READS IS OF BULK AT MOST 1048576: true; the input reads as it did. -/
def numLeastUptoRow : OpenClaim := { program := "ytdpjknjlhchmcaagreat", sum := "31d559a5e8d3233eaeae16e392b06b27a8fa016384941c0644c7373d790e34b3", func := "waveport/waveportlaw01.NumLeast", spec := "numLeast", inPlace := ["math.Float64bits", "math.Float64frombits"], unfollowed := true, recurses := true, named := ["math/bits.overflowError"], apart := false, narrowed := true }
def NumLeastUptoSaid : Prop := numLeastUptoRow.holds Tryz.pinned (OpenSpec.upto numLeastSpec)

/-- 'waveportlaw01.NumProducts', WHERE WHAT IT READS IS OF BULK AT MOST 1048576: true; the input reads as it did. -/
def numProductsUptoRow : OpenClaim := { program := "ytdpjknjlhchmcaagreat", sum := "31d559a5e8d3233eaeae16e392b06b27a8fa016384941c0644c7373d790e34b3", func := "waveport/waveportlaw01.NumProducts", spec := "numProducts", inPlace := ["math.Float64bits", "math.Float64frombits"], unfollowed := true, recurses := true, named := ["math/bits.overflowError"], apart := false, narrowed := true }
def NumProductsUptoSaid : Prop := numProductsUptoRow.holds Tryz.pinned (OpenSpec.upto numProductsSpec)

/-- 'waveportlaw01.NumSystems', WHERE WHAT IT READS IS OF BULK AT MOST 1048576: true; the input reads as it did. -/
def numSystemsUptoRow : OpenClaim := { program := "ytdpjknjlhchmcaagreat", sum := "31d559a5e8d3233eaeae16e392b06b27a8fa016384941c0644c7373d790e34b3", func := "waveport/waveportlaw01.NumSystems", spec := "numSystems", inPlace := ["math.Float64bits", "math.Float64frombits"], unfollowed := true, recurses := true, named := ["math/bits.overflowError"], apart := false, narrowed := true }
def NumSystemsUptoSaid : Prop := numSystemsUptoRow.holds Tryz.pinned (OpenSpec.upto numSystemsSpec)

/-- 'waveportlaw01.NumDefinite', WHERE WHAT IT READS IS OF BULK AT MOST 1048576: true; the input reads as it did. -/
def numDefiniteUptoRow : OpenClaim := { program := "ytdpjknjlhchmcaagreat", sum := "31d559a5e8d3233eaeae16e392b06b27a8fa016384941c0644c7373d790e34b3", func := "waveport/waveportlaw01.NumDefinite", spec := "numDefinite", inPlace := ["math.Float64bits", "math.Float64frombits"], unfollowed := true, recurses := true, named := ["math/bits.overflowError"], apart := false, narrowed := true }
def NumDefiniteUptoSaid : Prop := numDefiniteUptoRow.holds Tryz.pinned (OpenSpec.upto numDefiniteSpec)

end Rows
end Go.Proofs.YtdpjknjlhchmcaaGreat
