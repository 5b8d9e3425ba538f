/- 'trim': the words of a number, zeros behind them, are cut to the words of the number. Condition: the slice has at most 2^46 words. -/
import Derived.Test.YtgpmlhpgdalheaaGreatMem
namespace Go.Proofs.YtgpmlhpgdalheaaGreat
open Go.RowKit Pl

theorem lt_of_top {N k : Nat} (hk : 0 < k) (hN : N < 4294967296 ^ k) (h : wd N (k - 1) = 0) : N < 4294967296 ^ (k - 1) := by
  have e := mod_succ N (k - 1)
  rw [show k - 1 + 1 = k by omega, Nat.mod_eq_of_lt hN, h, Nat.mul_zero, Nat.add_zero] at e
  rw [e]
  exact Nat.mod_lt _ (pow_pos' _)

set_option maxHeartbeats 400000 in
theorem trim_any (w : World) (g m c N : Nat) (hm : m ≤ 70368744177664) (hmc : m ≤ c) (hN : N < 4294967296 ^ m) (hc : ∀ j, j < m → w.cell? ⟨g, j, none⟩ = some (.int .u32 (wd N j : Nat))) :
    Calls Tryz.prog 162 #[.slice (some ⟨g, 0, none⟩) m c] w fun e w' => e = .returned (.slice (some ⟨g, 0, none⟩) (ln N) (ln N)) ∧ w = w' := by
  go_enter Tryz.func162, Tryz.ntmps162
  go_wp2
  go_loop [3] (fun i => ∃ k : Nat, k ≤ m ∧ N < 4294967296 ^ k ∧ i = .int .i64 k) (fun i => (intOf i).toNat)
  case atStart => exact ⟨m, Nat.le_refl _, hN, rfl⟩
  case round =>
    obtain ⟨k, hk, hNk, rfl⟩ := hrel
    have hcell : 0 < k → w.cell? ⟨g, k - 1, none⟩ = some (.int .u32 (wd N (k - 1) : Nat)) := fun _ => hc _ (by omega)
    go_wp2
    · have h0 : ((wd N (k - 1) : Int) == 0) = true := by assumption
      have hk0 : 0 < k := by assumption
      go_round
      case rel => exact ⟨k - 1, by omega, lt_of_top hk0 hNk (by simpa using h0), by go_num⟩
      case measure => simp [intOf]; omega
    · have h0 : ((wd N (k - 1) : Int) == 0) = false := by assumption
      have hk0 : 0 < k := by assumption
      have e := ln_of_lt hNk (.inr (by simpa using h0))
      go_ret
      exact ⟨by rw [e]; rfl, rfl⟩
    · have hk0 : k = 0 := by omega
      have e := ln_of_lt hNk (.inl hk0)
      go_ret
      exact ⟨by rw [e]; rfl, rfl⟩
end Go.Proofs.YtgpmlhpgdalheaaGreat
