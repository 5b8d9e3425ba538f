/-
  No cell of these rows narrows 'for every input' (looked for: loops, veiled, ifaces, maps, wideKeys, modest, calm, conditions, laid).
  DERIVED. THE GIVEN ROWS OF THIS SEAT. 3 by the template 'for every input the law returns true; each argument reads behind the call as it read before'; 0 by the template 'total and deterministic' (their statements: YtdpjknjlhchmcaaTotals.lean).
  GIVEN WITH THE SEED: the statements are not yours to turn. If you find one false, say at which input.
  Laid BY PROGRAM, IN A SANDBOX (cutbox-rows.mjs): the forced cells as the released guide's own fill.sh prints them over the translation 32a402862d8303ec… (all of the seat's roots in one cut). By AI agents, Wed Nov 11 2026. No macro, syntax, notation, axiom, sorry.
-/
import Derived.Test.YtdpjknjlhchmcaaChecked
import GoSem.Claim
import GoSem.ClaimJoined
import GoSem.ClaimMapViews
import Derived.JoinedTies
import Derived.KernelRfl
namespace Go.Proofs.Ytdpjknjlhchmcaa
/- THE CELL 'sum', in the pinned program and in every row, IS THE sha256 OF THE DUMP (.gsa) THAT YtdpjknjlhchmcaaProg.lean LOADS. Nothing in Lean hashes anything: it is a label: what it is worth is what the hold of that sum in a sandbox is worth. -/
noncomputable def Try.pinned : Pinned := { name := "ytdpjknjlhchmcaa", sum := "32a402862d8303ecb86b2bcc82704a5a143e6f560824f622cfd4fe7fef1ac85c", checked := Try.checked }
namespace Rows
def none {H : Type} : Left H := { results := [], args := [] }

/-- 'waveportlaw01.NumDeterminants': WHATEVER THE INPUT: true; the input reads as it did. -/
def numDeterminantsSpec : ChangeSpec := { name := "numDeterminants", fn := fun _ => fun
  | [d1, d2, d3] => { results := [.lit (.bool true)], args := [d1, d2, d3] }
  | _ => none }
def numDeterminantsRow : OpenClaim := { program := "ytdpjknjlhchmcaa", sum := "32a402862d8303ecb86b2bcc82704a5a143e6f560824f622cfd4fe7fef1ac85c", func := "waveport/waveportlaw01.NumDeterminants", spec := "numDeterminants", inPlace := ["math.Float64bits", "math.Float64frombits"], unfollowed := true, recurses := true, named := ["math/bits.overflowError"], apart := false }
def NumDeterminantsSaid : Prop := numDeterminantsRow.holds Try.pinned (OpenSpec.ofChange numDeterminantsSpec)

/-- ITS FALSE NEIGHBOUR: 'it returns false'. Refute it at one input. -/
def numDeterminantsWrong : ChangeSpec := { name := "numDeterminants", fn := fun _ => fun
  | [d1, d2, d3] => { results := [.lit (.bool false)], args := [d1, d2, d3] }
  | _ => none }
def NumDeterminantsWrongFalsely : Prop := numDeterminantsRow.holds Try.pinned (OpenSpec.ofChange numDeterminantsWrong)

/-- 'waveportlaw01.NumInverts': WHATEVER THE INPUT: true; the input reads as it did. -/
def numInvertsSpec : ChangeSpec := { name := "numInverts", fn := fun _ => fun
  | [d1, d2, d3] => { results := [.lit (.bool true)], args := [d1, d2, d3] }
  | _ => none }
def numInvertsRow : OpenClaim := { program := "ytdpjknjlhchmcaa", sum := "32a402862d8303ecb86b2bcc82704a5a143e6f560824f622cfd4fe7fef1ac85c", func := "waveport/waveportlaw01.NumInverts", spec := "numInverts", inPlace := ["math.Float64bits", "math.Float64frombits"], unfollowed := true, recurses := true, named := ["math/bits.overflowError"], apart := false }
def NumInvertsSaid : Prop := numInvertsRow.holds Try.pinned (OpenSpec.ofChange numInvertsSpec)

/-- ITS FALSE NEIGHBOUR: 'it returns false'. Refute it at one input. -/
def numInvertsWrong : ChangeSpec := { name := "numInverts", fn := fun _ => fun
  | [d1, d2, d3] => { results := [.lit (.bool false)], args := [d1, d2, d3] }
  | _ => none }
def NumInvertsWrongFalsely : Prop := numInvertsRow.holds Try.pinned (OpenSpec.ofChange numInvertsWrong)

/-- 'waveportlaw01.NumGram': WHATEVER THE INPUT: true; the input reads as it did. -/
def numGramSpec : ChangeSpec := { name := "numGram", fn := fun _ => fun
  | [d1, d2] => { results := [.lit (.bool true)], args := [d1, d2] }
  | _ => none }
def numGramRow : OpenClaim := { program := "ytdpjknjlhchmcaa", sum := "32a402862d8303ecb86b2bcc82704a5a143e6f560824f622cfd4fe7fef1ac85c", func := "waveport/waveportlaw01.NumGram", spec := "numGram", inPlace := ["math.Float64bits", "math.Float64frombits"], unfollowed := true, recurses := true, named := ["math/bits.overflowError"], apart := false }
def NumGramSaid : Prop := numGramRow.holds Try.pinned (OpenSpec.ofChange numGramSpec)

/-- ITS FALSE NEIGHBOUR: 'it returns false'. Refute it at one input. -/
def numGramWrong : ChangeSpec := { name := "numGram", fn := fun _ => fun
  | [d1, d2] => { results := [.lit (.bool false)], args := [d1, d2] }
  | _ => none }
def NumGramWrongFalsely : Prop := numGramRow.holds Try.pinned (OpenSpec.ofChange numGramWrong)

/- THE SECOND FORM. 'bulk': how many values and letters a reading holds, each counted each time it is reached (what is shared counts as often as it is met; a slice's spare places count too). A statement '..UptoSaid' is the law's where the arguments, and the package variables that the reading takes, are together of bulk at most 1048576: NARROWER than '..Said'. Prove '..Said' where nothing that the law and all that it calls make is longer than what came in: it says more and counts as full. Else prove '..UptoSaid'. A law counts once. -/
mutual
def uptoBulk {H : Type} : DataW H → Nat
  | .lit (.string bytes) => bytes.length + 1
  | .lit _ => 1
  | .nil => 1
  | .ptr d => uptoBulk d + 1
  | .slice elems spare => uptoBulkAll elems + uptoBulkAll spare + 1
  | .agg parts => uptoBulkAll parts + 1
  | .iface _ d => uptoBulk d + 1
  | .map entries => uptoBulkEntries entries + 1
  | .held _ => 1
def uptoBulkAll {H : Type} : List (DataW H) → Nat
  | [] => 0
  | d :: r => uptoBulk d + uptoBulkAll r
def uptoBulkEntries {H : Type} : List (Lit × DataW H) → Nat
  | [] => 0
  | x :: r => uptoBulkEntry x + uptoBulkEntries r
def uptoBulkEntry {H : Type} : Lit × DataW H → Nat
  | (.string bytes, d) => bytes.length + uptoBulk d + 1
  | (_, d) => uptoBulk d + 1
 end
def uptoSmall : (H : Type) → List (DataW H) → Bool := fun _ ds => decide (uptoBulkAll ds ≤ 1048576)
def OpenSpec.upto (s : _root_.Go.ChangeSpec) : _root_.Go.OpenSpec := { _root_.Go.OpenSpec.ofChange s with cond := some uptoSmall }

/-- 'waveportlaw01.NumDeterminants', WHERE WHAT IT READS IS OF BULK AT MOST 1048576: true; the input reads as it did. -/
def numDeterminantsUptoRow : OpenClaim := { program := "ytdpjknjlhchmcaa", sum := "32a402862d8303ecb86b2bcc82704a5a143e6f560824f622cfd4fe7fef1ac85c", func := "waveport/waveportlaw01.NumDeterminants", spec := "numDeterminants", inPlace := ["math.Float64bits", "math.Float64frombits"], unfollowed := true, recurses := true, named := ["math/bits.overflowError"], apart := false, narrowed := true }
def NumDeterminantsUptoSaid : Prop := numDeterminantsUptoRow.holds Try.pinned (OpenSpec.upto numDeterminantsSpec)

/-- 'waveportlaw01.NumInverts', WHERE WHAT IT READS IS OF BULK AT MOST 1048576: true; the input reads as it did. -/
def numInvertsUptoRow : OpenClaim := { program := "ytdpjknjlhchmcaa", sum := "32a402862d8303ecb86b2bcc82704a5a143e6f560824f622cfd4fe7fef1ac85c", func := "waveport/waveportlaw01.NumInverts", spec := "numInverts", inPlace := ["math.Float64bits", "math.Float64frombits"], unfollowed := true, recurses := true, named := ["math/bits.overflowError"], apart := false, narrowed := true }
def NumInvertsUptoSaid : Prop := numInvertsUptoRow.holds Try.pinned (OpenSpec.upto numInvertsSpec)

/-- 'waveportlaw01.NumGram', WHERE WHAT IT READS IS OF BULK AT MOST 1048576: true; the input reads as it did. -/
def numGramUptoRow : OpenClaim := { program := "ytdpjknjlhchmcaa", sum := "32a402862d8303ecb86b2bcc82704a5a143e6f560824f622cfd4fe7fef1ac85c", func := "waveport/waveportlaw01.NumGram", spec := "numGram", inPlace := ["math.Float64bits", "math.Float64frombits"], unfollowed := true, recurses := true, named := ["math/bits.overflowError"], apart := false, narrowed := true }
def NumGramUptoSaid : Prop := numGramUptoRow.holds Try.pinned (OpenSpec.upto numGramSpec)

end Rows
end Go.Proofs.Ytdpjknjlhchmcaa
