/- Part 5 of the proof. -/
import Derived.Test.YtdpjknjlhchmcaaNM1
import Derived.Test.YtdpjknjlhchmcaaNM3
import Derived.Shelf.Bits.Mul64
import Derived.Test.YtdpjknjlhchmcaaNM2
namespace Go.Proofs.Ytdpjknjlhchmcaa
open Go.RowKit Pl
set_option linter.unusedVariables false
set_option linter.unusedSimpArgs false
end Go.Proofs.Ytdpjknjlhchmcaa

namespace Go.Proofs.Ytdpjknjlhchmcaa
open Go.RowKit Pl
set_option linter.unusedVariables false
set_option linter.unusedSimpArgs false
end Go.Proofs.Ytdpjknjlhchmcaa

namespace Go.Proofs.Ytdpjknjlhchmcaa
open Go.RowKit Pl
set_option linter.unusedVariables false
set_option linter.unusedSimpArgs false
end Go.Proofs.Ytdpjknjlhchmcaa

namespace Go.Proofs.Ytdpjknjlhchmcaa
open Go.RowKit Pl
set_option linter.unusedVariables false
set_option linter.unusedSimpArgs false
end Go.Proofs.Ytdpjknjlhchmcaa

namespace Go.Proofs.Ytdpjknjlhchmcaa
open Go.RowKit Pl
set_option linter.unusedVariables false
set_option linter.unusedSimpArgs false
end Go.Proofs.Ytdpjknjlhchmcaa

namespace Go.Proofs.Ytdpjknjlhchmcaa
open Go.RowKit Pl
set_option linter.unusedVariables false
set_option linter.unusedSimpArgs false
end Go.Proofs.Ytdpjknjlhchmcaa

namespace Go.Proofs.Ytdpjknjlhchmcaa
open Go.RowKit Pl
set_option linter.unusedVariables false
set_option linter.unusedSimpArgs false
def Num3C (w : World) (A1 A2 A3 : Option Addr) (q : Cx) : Prop := Nat32 w A1 (ab (na q)) ∧ Nat32 w A2 (ab (nb q)) ∧ Nat32 w A3 (nd q)
theorem Num3C.to {w w' : World} {A1 A2 A3 : Option Addr} {q : Cx} (h : Num3C w A1 A2 A3 q) (hb : Below w.heap.size w w') : Num3C w' A1 A2 A3 q := ⟨h.1.to hb, h.2.1.to hb, h.2.2.to hb⟩
theorem Num3C.setBox {w : World} {A1 A2 A3 : Option Addr} {q : Cx} {R i : Nat} {v u : Value} (h : Num3C w A1 A2 A3 q) (hv : w.cell? ⟨R, 0, none⟩ = some v) (hne : ∀ k m, v ≠ .int k m) : Num3C (w.setCell ⟨R, i, none⟩ u) A1 A2 A3 q :=
  ⟨h.1.setBox hv hne, h.2.1.setBox hv hne, h.2.2.setBox hv hne⟩
end Go.Proofs.Ytdpjknjlhchmcaa

namespace Go.Proofs.Ytdpjknjlhchmcaa
open Go.RowKit Pl
set_option linter.unusedVariables false
set_option linter.unusedSimpArgs false
end Go.Proofs.Ytdpjknjlhchmcaa

namespace Go.Proofs.Ytdpjknjlhchmcaa
open Go.RowKit Pl
set_option linter.unusedVariables false
set_option linter.unusedSimpArgs false
end Go.Proofs.Ytdpjknjlhchmcaa

namespace Go.Proofs.Ytdpjknjlhchmcaa
open Go.RowKit Pl
set_option linter.unusedVariables false
set_option linter.unusedSimpArgs false
end Go.Proofs.Ytdpjknjlhchmcaa

namespace Go.Proofs.Ytdpjknjlhchmcaa
open Go.RowKit Pl
set_option linter.unusedVariables false
set_option linter.unusedSimpArgs false
end Go.Proofs.Ytdpjknjlhchmcaa

namespace Go.Proofs.Ytdpjknjlhchmcaa
open Go.RowKit Pl
set_option linter.unusedVariables false
set_option linter.unusedSimpArgs false
end Go.Proofs.Ytdpjknjlhchmcaa

namespace Go.Proofs.Ytdpjknjlhchmcaa
open Go.RowKit Pl
set_option linter.unusedVariables false
set_option linter.unusedSimpArgs false
/-- The five cells of a number of the reference. -/
def Cells5c (w : World) (g : Nat) (q : Cx) (A1 A2 A3 : Option Addr) (k1 k2 k3 : Nat) : Prop := w.cell? ⟨g, 0, none⟩ = some (.bool (sn (na q))) ∧ w.cell? ⟨g, 1, none⟩ = some (.slice A1 (ln (ab (na q))) k1) ∧ w.cell? ⟨g, 2, none⟩ = some (.bool (sn (nb q))) ∧ w.cell? ⟨g, 3, none⟩ = some (.slice A2 (ln (ab (nb q))) k2) ∧ w.cell? ⟨g, 4, none⟩ = some (.slice A3 (ln (nd q)) k3)
end Go.Proofs.Ytdpjknjlhchmcaa
