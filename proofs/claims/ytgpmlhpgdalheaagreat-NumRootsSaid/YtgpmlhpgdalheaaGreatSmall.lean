/- Small functions on numbers in words: 'natOf', 'one', Add32, Sub32, Div32. Conditions: those at each theorem. -/
import Derived.Test.YtgpmlhpgdalheaaGreatTrim
namespace Go.Proofs.YtgpmlhpgdalheaaGreat
open Go.RowKit Pl

theorem ret_two {a b c d : Value} (h : a = c) (k : b = d) : Ending.returned (.tuple #[a, b]) = .returned (.tuple #[c, d]) := by rw [h, k]
theorem int_val {k : IntKind} {a b : Int} (h : a = b) : Value.int k a = .int k b := by rw [h]

theorem ret_bool {a b : Bool} (h : a = b) : Ending.returned (.bool a) = .returned (.bool b) := by rw [h]
theorem ret_int {k : IntKind} {a b : Int} (h : a = b) : Ending.returned (.int k a) = .returned (.int k b) := by rw [h]

theorem add32_any (x y c : Int) (hx0 : 0 ≤ x) (hx : x < 4294967296) (hy0 : 0 ≤ y) (hy : y < 4294967296) (hc0 : 0 ≤ c) (hc : c < 4294967296) (w : World) :
    Calls Tryz.prog 192 #[.int .u32 x, .int .u32 y, .int .u32 c] w fun e w' => e = .returned (.tuple #[.int .u32 ((x + y + c) % 4294967296), .int .u32 ((x + y + c) / 4294967296)]) ∧ w = w' := by
  go_enter Tryz.func192, Tryz.ntmps192
  go_wp2
  go_ret2
  exact ⟨rfl, rfl⟩

theorem natOf_words (N j : Nat) (hN : N < 18446744073709551616) (hj : j < 2) : (#[Value.int .u32 ((N : Int) % 4294967296), Value.int .u32 ((N : Int) / 4294967296)])[j]? = some (.int .u32 (wd N j : Nat)) := by
  match j, hj with
  | 0, _ => simp [wd_0]
  | 1, _ => simp [wd_1]; omega

set_option maxHeartbeats 400000 in
theorem natOf_any (N : Nat) (hN : N < 18446744073709551616) (w : World) :
    Calls Tryz.prog 168 #[.int .u64 N] w (RetNat w N) := by
  go_enter Tryz.func168, Tryz.ntmps168
  go_wp2_with fail
  refine (trim_any _ w.heap.size 2 2 N (by omega) (by omega) hN ?_).mono ?_
  · intro j hj
    rw [World.cell?_alloc_new]
    exact natOf_words N j hN hj
  rintro e w' ⟨rfl, rfl⟩
  go_wp2
  go_ret
  exact ⟨_, rfl, fun _ => ⟨w.heap.size, rfl, by simp, fun j hj => by
    rw [World.cell?_alloc_new]
    exact natOf_words N j hN (by have := ln_le (n := N) (k := 2) hN; omega)⟩, (Below.refl _ _).alloc (Nat.le_refl _) _⟩

set_option maxHeartbeats 400000 in
theorem one_any (n : Nat) (A : Option Addr) (w : World) (h : Nat32 w A n) :
    Calls Tryz.prog 158 #[.slice A (ln n) (ln n)] w fun e w' => e = .returned (.bool (decide (n = 1))) ∧ w = w' := by
  by_cases h1 : ln n = 1
  · have hn : n ≠ 0 := fun e => by rw [e, ln_zero] at h1; omega
    obtain ⟨b, rfl, _, hc⟩ := h hn
    have hlt : n < 4294967296 := by have := lt_ln n; rw [h1] at this; simpa using this
    have hw : wd n 0 = n := by rw [wd_0, Nat.mod_eq_of_lt hlt]
    have g := hc 0 (by omega)
    rw [hw] at g
    rw [h1]
    clear hc h hw h1
    go_enter Tryz.func158, Tryz.ntmps158
    go_wp2
    go_ret
    exact ⟨ret_bool (by rw [Bool.eq_iff_iff]; simp; omega), rfl⟩
  · have hn : n ≠ 1 := fun e => h1 (by rw [e, ln_one])
    have h2 : ((ln n : Int) == 1) = false := by simpa using fun e => h1 (by omega)
    have h3 : decide (n = 1) = false := by simpa using hn
    rw [h3]
    go_enter Tryz.func158, Tryz.ntmps158
    go_wp2
    go_ret
    exact ⟨rfl, rfl⟩
end Go.Proofs.YtgpmlhpgdalheaaGreat
