/- 'nat.gcd': the greatest common divisor of two numbers in words. Condition: at most 2^40 words each. -/
import Derived.Test.YtgpmlhpgdalheaaGreatDivB
import Derived.Deep.LoopGhost
namespace Go.Proofs.YtgpmlhpgdalheaaGreat
open Go.RowKit Pl
set_option linter.unusedVariables false

set_option maxHeartbeats 1000000 in
/-- 'x.gcd(y)'. -/
theorem gcd_any (x y : Nat) (A B : Option Addr) (w : World) (hx : Nat32 w A x) (hy : Nat32 w B y) (hbx : ln x ≤ 1099511627776) (hby : ln y ≤ 1099511627776) :
    Calls Tryz.prog 157 #[.slice A (ln x) (ln x), .slice B (ln y) (ln y)] w (RetNat w (Nat.gcd x y)) := by
  go_enter Tryz.func157, Tryz.ntmps157
  go_wp2_with fail
  go_loopg [0, 1] y (fun m u v wr => ∃ (a : Nat) (A B : Option Addr), u = .slice A (ln a) (ln a) ∧ v = .slice B (ln m) (ln m) ∧ Hid (Nat.gcd a m = Nat.gcd x y) ∧ ln a ≤ 1099511627776 ∧ ln m ≤ 1099511627776 ∧ Nat32 wr A a ∧ Nat32 wr B m ∧ Below w.heap.size w wr)
  case atStart => exact ⟨x, A, B, rfl, rfl, rfl, hbx, hby, hx, hy, Below.refl _ _⟩
  case round =>
    obtain ⟨a, A', B', rfl, rfl, hg, ha, hm, hA, hB, hb⟩ := hrel
    clear hx hy
    by_cases hm0 : gk = 0
    · have t1 : decide (0 < ln gk) = false := by rw [hm0, ln_zero]; rfl
      have HG := Lib.hid (show a = Nat.gcd x y by rw [← hg.out, hm0, Nat.gcd_zero_right])
      have HB := Lib.hid hb
      clear hm0 hb hg
      go_wp2_with fail
      go_ret
      rw [← HG.out]
      exact ⟨A', rfl, hA, HB.out⟩
    · have t1 : decide (0 < ln gk) = true := by have := ln_pos hm0; simpa using this
      have HB := Lib.hid hb
      clear hb
      go_wp2_with fail
      refine (div_any a gk A' B' wr hA hB ha hm hm0).mono ?_
      rintro e w1 ⟨AQ, AR, rfl, hQ, hR, hb1⟩
      have hB1 := hB.to hb1
      have hb2 := HB.out.trans (hb1.mono HB.out.size)
      have hrl : ln (a % gk) ≤ 1099511627776 := Nat.le_trans (ln_mono (Nat.mod_le _ _)) ha
      clear hb1
      go_wp2_with fail
      go_roundg (a % gk)
      case measure => exact Nat.mod_lt _ (by omega)
      case rel => exact ⟨gk, B', AR, rfl, rfl, by
        show Nat.gcd gk (a % gk) = Nat.gcd x y
        rw [← hg.out, Nat.gcd_comm gk, ← Nat.gcd_rec, Nat.gcd_comm], hm, hrl, hB1, hR, hb2⟩

end Go.Proofs.YtgpmlhpgdalheaaGreat
