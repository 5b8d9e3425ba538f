/- 'nat.cmp': the order of two numbers in words. Condition: at most 2^45 words each. -/
import Derived.Test.YtgpmlhpgdalheaaGreatSub
namespace Go.Proofs.YtgpmlhpgdalheaaGreat
open Go.RowKit Pl

/-- The order of two numbers: -1, 0, 1. -/
def cmpN (x y : Nat) : Int := if x < y then -1 else if x = y then 0 else 1
theorem cmpN_lt {x y : Nat} (h : x < y) : cmpN x y = -1 := by unfold cmpN; rw [if_pos h]
theorem cmpN_eq {x y : Nat} (h : x = y) : cmpN x y = 0 := by unfold cmpN; rw [if_neg (by omega), if_pos h]
theorem cmpN_gt {x y : Nat} (h : y < x) : cmpN x y = 1 := by unfold cmpN; rw [if_neg (by omega), if_neg (by omega)]

theorem hi_step {x y k : Nat} (hk : 0 < k) (h : x / 4294967296 ^ k = y / 4294967296 ^ k) :
    (wd x (k - 1) < wd y (k - 1) → x < y) ∧ (wd x (k - 1) = wd y (k - 1) → x / 4294967296 ^ (k - 1) = y / 4294967296 ^ (k - 1)) := by
  obtain ⟨j, rfl⟩ : ∃ j, k = j + 1 := ⟨k - 1, by omega⟩
  rw [Nat.pow_succ, ← Nat.div_div_eq_div_mul, ← Nat.div_div_eq_div_mul] at h
  simp only [Nat.add_sub_cancel, wd]
  constructor
  · intro h1
    have h2 : x / 4294967296 ^ j < y / 4294967296 ^ j := by omega
    rcases Nat.lt_or_ge x y with h3 | h3
    · exact h3
    · have := Nat.div_le_div_right (c := 4294967296 ^ j) h3
      omega
  · intro h1; omega

/-- A call hands back an int, and turns nothing that was there. -/
def RetInt (w : World) (z : Int) (e : Ending) (w' : World) : Prop := e = .returned (.int .i64 z) ∧ Below w.heap.size w w'
def RetBool (w : World) (z : Bool) (e : Ending) (w' : World) : Prop := e = .returned (.bool z) ∧ Below w.heap.size w w'

set_option maxHeartbeats 400000 in
theorem cmp_eq (x y : Nat) (A B : Option Addr) (w : World) (hx : Nat32 w A x) (hy : Nat32 w B y) (hbx : ln x ≤ 35184372088832) (hl : ln y = ln x) :
    Calls Tryz.prog 109 #[.slice A (ln x) (ln x), .slice B (ln x) (ln x)] w (RetInt w (cmpN x y)) := by
  have HL := Lib.hid hl
  clear hl
  go_enter Tryz.func109, Tryz.ntmps109
  go_wp2_with fail
  go_loopw [5] (fun i wr => ∃ k : Nat, k ≤ ln x ∧ i = .int .i64 ((k : Int) - 1) ∧ x / 4294967296 ^ k = y / 4294967296 ^ k ∧ Below w.heap.size w wr) (fun i _ => (intOf i + 1).toNat)
  case atStart => exact ⟨ln x, Nat.le_refl _, by go_num, by rw [Nat.div_eq_of_lt (lt_ln x), ← HL.out, Nat.div_eq_of_lt (lt_ln y)], Below.refl _ _⟩
  case round =>
    obtain ⟨k, hk, rfl, hdiv, hbelk⟩ := hrel
    have HD := Lib.hid hdiv
    clear hdiv
    by_cases hk0 : 0 < k
    · have hx0 : x ≠ 0 := fun e => by rw [e, ln_zero] at hk; omega
      have hy0 : y ≠ 0 := fun e => by have := HL.out; rw [e, ln_zero] at this; omega
      obtain ⟨b, rfl, hb, hcx⟩ := hx hx0
      obtain ⟨b', rfl, hb', hcy⟩ := hy hy0
      have hxk := (hbelk.cell (p := ⟨b, k - 1, none⟩) hb).trans (hcx (k - 1) (by omega))
      have hyk := (hbelk.cell (p := ⟨b', k - 1, none⟩) hb').trans (hcy (k - 1) (by have := HL.out; omega))
      clear hcx hcy
      rcases Nat.lt_trichotomy (wd x (k - 1)) (wd y (k - 1)) with h | h | h
      · go_wp2
        go_quiet (fail)
        go_wp2
        go_ret
        exact ⟨ret_int (cmpN_lt ((hi_step hk0 HD.out).1 h)).symm, below_drewN hbelk _⟩
      · have h1 : ¬ wd x (k - 1) < wd y (k - 1) := by omega
        have h2 : ¬ wd y (k - 1) < wd x (k - 1) := by omega
        have HE := Lib.hid h
        clear h
        go_wp2
        go_quiet (fail)
        go_wp2
        go_quiet (fail)
        go_wp2
        go_roundw
        case rel => exact ⟨k - 1, by omega, by go_num, (hi_step hk0 HD.out).2 HE.out, below_drewN hbelk _⟩
        case measure => simp [intOf]; omega
      · have h1 : ¬ wd x (k - 1) < wd y (k - 1) := by omega
        go_wp2
        go_quiet (fail)
        go_wp2
        go_quiet (fail)
        go_wp2
        go_ret
        exact ⟨ret_int (cmpN_gt ((hi_step hk0 HD.out.symm).1 h)).symm, below_drewN (below_drewN hbelk _) _⟩
    · obtain rfl : k = 0 := by omega
      go_wp2
      go_ret
      exact ⟨ret_int (cmpN_eq (by have := HD.out; simpa using this)).symm, hbelk⟩

set_option maxHeartbeats 400000 in
/-- 'x.cmp(y)'. -/
theorem cmp_any (x y : Nat) (A B : Option Addr) (w : World) (hx : Nat32 w A x) (hy : Nat32 w B y) (hbx : ln x ≤ 35184372088832) :
    Calls Tryz.prog 109 #[.slice A (ln x) (ln x), .slice B (ln y) (ln y)] w (RetInt w (cmpN x y)) := by
  rcases Nat.lt_trichotomy (ln x) (ln y) with h | h | h
  · have hc := cmpN_lt (lt_of_ln_lt h)
    have hne : ((ln x : Int) != (ln y : Int)) = true := by rw [bne_iff_ne]; omega
    rw [hc]
    clear hc
    go_enter Tryz.func109, Tryz.ntmps109
    go_wp2
    go_ret
    exact ⟨rfl, Below.refl _ _⟩
  · rw [← h]
    exact cmp_eq x y A B w hx hy hbx h.symm
  · have hc := cmpN_gt (lt_of_ln_lt h)
    have hne : ((ln x : Int) != (ln y : Int)) = true := by rw [bne_iff_ne]; omega
    rw [hc]
    clear hc
    go_enter Tryz.func109, Tryz.ntmps109
    go_wp2
    go_ret
    exact ⟨rfl, Below.refl _ _⟩

end Go.Proofs.YtgpmlhpgdalheaaGreat
