/- 'nat.add': the sum of two numbers in words. Condition: at most 2^45 words each. -/
import Derived.Test.YtgpmlhpgdalheaaGreatSmall
namespace Go.Proofs.YtgpmlhpgdalheaaGreat
open Go.RowKit Pl

/-- What stands in the row before round k: the words of n below k, zeros behind them. -/
def part (n k : Nat) (j : Nat) : Value := .int .u32 ((if j < k then wd n j else 0 : Nat) : Int)

theorem part_zero (n j : Nat) : part n 0 j = .int .u32 0 := by simp [part]
theorem part_step (n k j : Nat) (v : Value) (hv : v = .int .u32 (wd n k : Nat)) : (if j = k then v else part n k j) = part n (k + 1) j := by
  unfold part
  by_cases h : j = k
  · subst h; rw [if_pos rfl, hv, if_pos (by omega)]
  · rw [if_neg h]
    by_cases h2 : j < k
    · rw [if_pos h2, if_pos (by omega)]
    · rw [if_neg h2, if_neg (by omega)]
theorem part_below {n k j : Nat} (h : j < k) : part n k j = .int .u32 (wd n j : Nat) := by unfold part; rw [if_pos h]

/-- The carry out of the words below k. -/
def cr (x y k : Nat) : Nat := (x % 4294967296 ^ k + y % 4294967296 ^ k) / 4294967296 ^ k
theorem cr_zero (x y : Nat) : cr x y 0 = 0 := by simp [cr, Nat.mod_one]
theorem cr_le (x y k : Nat) : cr x y k ≤ 1 := carry_le (pow_pos' k)
theorem cr_word (x y k : Nat) : (wd x k + wd y k + cr x y k) % 4294967296 = wd (x + y) k := add_word (pow_pos' k)
theorem cr_step (x y k : Nat) : (wd x k + wd y k + cr x y k) / 4294967296 = cr x y (k + 1) := by
  unfold cr wd
  rw [add_carry (pow_pos' k), Nat.pow_succ]

/-- The carry out of all words is the word above them. -/
theorem cr_top {x y k : Nat} (hx : x < 4294967296 ^ k) (hy : y < 4294967296 ^ k) : cr x y k = wd (x + y) k := by
  have h := cr_word x y k
  rw [wd_top hx (Nat.le_refl _), wd_top hy (Nat.le_refl _)] at h
  have := cr_le x y k
  omega

set_option maxHeartbeats 400000 in
theorem add_ge (x y : Nat) (A B : Option Addr) (w : World) (hx : Nat32 w A x) (hy : Nat32 w B y) (hbx : ln x ≤ 35184372088832) (hl : ln y ≤ ln x) :
    Calls Tryz.prog 160 #[.slice A (ln x) (ln x), .slice B (ln y) (ln y)] w (RetNat w (x + y)) := by
  have hmk := mk_nat (ln x + 1) (by omega)
  have ec : ((ln x + 1 : Nat) : Int) = (ln x : Int) + 1 := by omega
  rw [ec] at hmk
  clear ec
  have hs : decide (ln x < ln y) = false := by simpa using hl
  go_enter Tryz.func160, Tryz.ntmps160
  go_wp2_with fail
  have hN : x + y < 4294967296 ^ (ln x + 1) := lt_of_ln (by have := ln_add x y; omega)
  have hrow := (World.rowIs_made w (.int .u32 0) (ln x + 1) 45).congr (g := part (x + y) 0) fun j _ => (part_zero _ _).symm
  have hbel := (Below.refl w.heap.size w).alloc (Nat.le_refl _) (.cells (madeCells #[.int .u32 0] (ln x + 1)) 45)
  go_loopw [6, 22] (fun c i wr => ∃ k : Nat, k ≤ ln x ∧ i = .int .i64 k ∧ c = .int .u32 (cr x y k : Nat) ∧ wr.rowIs w.heap.size 45 (ln x + 1) (part (x + y) k) ∧ Below w.heap.size w wr) (fun _ i _ => ln x - (intOf i).toNat)
  case atStart => exact ⟨0, Nat.zero_le _, rfl, by rw [cr_zero]; rfl, hrow, hbel⟩
  case round =>
    obtain ⟨k, hk, rfl, rfl, hrowk, hbelk⟩ := hrel
    clear hrow hbel hmk
    have hc1 := cr_le x y k
    by_cases hlt : k < ln x
    · have hx0 : x ≠ 0 := fun e => by rw [e, ln_zero] at hlt; omega
      obtain ⟨b, rfl, hb, hcx⟩ := hx hx0
      have hxk := (hbelk.cell (p := ⟨b, k, none⟩) hb).trans (hcx k hlt)
      have hst := hrowk.cell (i := k) (by omega)
      have hfr := hrowk.frozen k
      have b1 := wd_lt x k
      have b2 := wd_lt y k
      clear hcx
      by_cases hly : k < ln y
      · have hy0 : y ≠ 0 := fun e => by rw [e, ln_zero] at hly; omega
        obtain ⟨b', rfl, hb', hcy⟩ := hy hy0
        have hyk := (hbelk.cell (p := ⟨b', k, none⟩) hb').trans (hcy k hly)
        clear hcy
        go_wp2_with fail
        refine (add32_any _ _ _ (by omega) (by omega) (by omega) (by omega) (by omega) (by omega) _).mono ?_
        rintro e w' ⟨rfl, rfl⟩
        go_wp2
        go_roundw
        case rel => exact ⟨k + 1, by omega, by go_num, int_val (by rw [← cr_step]; omega), (hrowk.set _ _).congr fun j _ => part_step _ _ _ _ (int_val (by rw [← cr_word]; omega)), hbelk.setCell (by simp) _⟩
        case measure => simp [intOf]; omega
      · have hyz := wd_high (n := y) (k := k) (by omega)
        go_wp2_with fail
        refine (add32_any _ _ _ (by omega) (by omega) (by omega) (by omega) (by omega) (by omega) _).mono ?_
        rintro e w' ⟨rfl, rfl⟩
        go_wp2
        go_roundw
        case rel => exact ⟨k + 1, by omega, by go_num, int_val (by rw [← cr_step, hyz]; omega), (hrowk.set _ _).congr fun j _ => part_step _ _ _ _ (int_val (by rw [← cr_word, hyz]; omega)), hbelk.setCell (by simp) _⟩
        case measure => simp [intOf]; omega
    · obtain rfl : k = ln x := by omega
      have hst := hrowk.cell (i := ln x) (by omega)
      have hfr := hrowk.frozen (ln x)
      have htop := cr_top (lt_ln x) (lt_of_ln hl)
      have hrow2 := (hrowk.set (ln x) (.int .u32 (cr x y (ln x) : Nat))).congr (g := part (x + y) (ln x + 1)) fun j _ => part_step _ _ _ _ (by rw [htop])
      have hbel2 := hbelk.setCell (p := ⟨w.heap.size, ln x, none⟩) (Nat.le_refl _) (.int .u32 (cr x y (ln x) : Nat))
      have HT := Lib.hid htop
      clear htop
      go_wp2_with fail
      refine (trim_any _ w.heap.size (ln x + 1) (ln x + 1) (x + y) (by omega) (by omega) hN fun j hj => by rw [hrow2.cell hj, part_below hj]).mono ?_
      rintro e w' ⟨rfl, rfl⟩
      go_wp2
      go_ret
      exact ⟨_, rfl, Nat32.ofRow hrow2 (ln_le hN) fun j hj => part_below (by have := ln_le hN; omega), hbel2⟩
set_option maxHeartbeats 400000 in
theorem add_lt (x y : Nat) (A B : Option Addr) (w : World) (hx : Nat32 w A x) (hy : Nat32 w B y) (hbx : ln x ≤ 35184372088832) (hl : ln y < ln x) :
    Calls Tryz.prog 160 #[.slice B (ln y) (ln y), .slice A (ln x) (ln x)] w (RetNat w (x + y)) := by
  have hmk := mk_nat (ln x + 1) (by omega)
  have ec : ((ln x + 1 : Nat) : Int) = (ln x : Int) + 1 := by omega
  rw [ec] at hmk
  clear ec
  have hs : decide (ln y < ln x) = true := by simpa using hl
  go_enter Tryz.func160, Tryz.ntmps160
  go_wp2_with fail
  have hN : x + y < 4294967296 ^ (ln x + 1) := lt_of_ln (by have := ln_add x y; omega)
  have hrow := (World.rowIs_made w (.int .u32 0) (ln x + 1) 45).congr (g := part (x + y) 0) fun j _ => (part_zero _ _).symm
  have hbel := (Below.refl w.heap.size w).alloc (Nat.le_refl _) (.cells (madeCells #[.int .u32 0] (ln x + 1)) 45)
  go_loopw [6, 22] (fun c i wr => ∃ k : Nat, k ≤ ln x ∧ i = .int .i64 k ∧ c = .int .u32 (cr x y k : Nat) ∧ wr.rowIs w.heap.size 45 (ln x + 1) (part (x + y) k) ∧ Below w.heap.size w wr) (fun _ i _ => ln x - (intOf i).toNat)
  case atStart => exact ⟨0, Nat.zero_le _, rfl, by rw [cr_zero]; rfl, hrow, hbel⟩
  case round =>
    obtain ⟨k, hk, rfl, rfl, hrowk, hbelk⟩ := hrel
    clear hrow hbel hmk
    have hc1 := cr_le x y k
    by_cases hlt : k < ln x
    · have hx0 : x ≠ 0 := fun e => by rw [e, ln_zero] at hlt; omega
      obtain ⟨b, rfl, hb, hcx⟩ := hx hx0
      have hxk := (hbelk.cell (p := ⟨b, k, none⟩) hb).trans (hcx k hlt)
      have hst := hrowk.cell (i := k) (by omega)
      have hfr := hrowk.frozen k
      have b1 := wd_lt x k
      have b2 := wd_lt y k
      clear hcx
      by_cases hly : k < ln y
      · have hy0 : y ≠ 0 := fun e => by rw [e, ln_zero] at hly; omega
        obtain ⟨b', rfl, hb', hcy⟩ := hy hy0
        have hyk := (hbelk.cell (p := ⟨b', k, none⟩) hb').trans (hcy k hly)
        clear hcy
        go_wp2_with fail
        refine (add32_any _ _ _ (by omega) (by omega) (by omega) (by omega) (by omega) (by omega) _).mono ?_
        rintro e w' ⟨rfl, rfl⟩
        go_wp2
        go_roundw
        case rel => exact ⟨k + 1, by omega, by go_num, int_val (by rw [← cr_step]; omega), (hrowk.set _ _).congr fun j _ => part_step _ _ _ _ (int_val (by rw [← cr_word]; omega)), hbelk.setCell (by simp) _⟩
        case measure => simp [intOf]; omega
      · have hyz := wd_high (n := y) (k := k) (by omega)
        go_wp2_with fail
        refine (add32_any _ _ _ (by omega) (by omega) (by omega) (by omega) (by omega) (by omega) _).mono ?_
        rintro e w' ⟨rfl, rfl⟩
        go_wp2
        go_roundw
        case rel => exact ⟨k + 1, by omega, by go_num, int_val (by rw [← cr_step, hyz]; omega), (hrowk.set _ _).congr fun j _ => part_step _ _ _ _ (int_val (by rw [← cr_word, hyz]; omega)), hbelk.setCell (by simp) _⟩
        case measure => simp [intOf]; omega
    · obtain rfl : k = ln x := by omega
      have hst := hrowk.cell (i := ln x) (by omega)
      have hfr := hrowk.frozen (ln x)
      have htop := cr_top (lt_ln x) (lt_of_ln (Nat.le_of_lt hl))
      have hrow2 := (hrowk.set (ln x) (.int .u32 (cr x y (ln x) : Nat))).congr (g := part (x + y) (ln x + 1)) fun j _ => part_step _ _ _ _ (by rw [htop])
      have hbel2 := hbelk.setCell (p := ⟨w.heap.size, ln x, none⟩) (Nat.le_refl _) (.int .u32 (cr x y (ln x) : Nat))
      have HT := Lib.hid htop
      clear htop
      go_wp2_with fail
      refine (trim_any _ w.heap.size (ln x + 1) (ln x + 1) (x + y) (by omega) (by omega) hN fun j hj => by rw [hrow2.cell hj, part_below hj]).mono ?_
      rintro e w' ⟨rfl, rfl⟩
      go_wp2
      go_ret
      exact ⟨_, rfl, Nat32.ofRow hrow2 (ln_le hN) fun j hj => part_below (by have := ln_le hN; omega), hbel2⟩
/-- 'x.add(y)'. -/
theorem add_any (x y : Nat) (A B : Option Addr) (w : World) (hx : Nat32 w A x) (hy : Nat32 w B y) (hbx : ln x ≤ 35184372088832) (hby : ln y ≤ 35184372088832) :
    Calls Tryz.prog 160 #[.slice A (ln x) (ln x), .slice B (ln y) (ln y)] w (RetNat w (x + y)) := by
  rcases Nat.lt_or_ge (ln x) (ln y) with h | h
  · rw [Nat.add_comm]; exact add_lt y x B A w hy hx hby h
  · exact add_ge x y A B w hx hy hbx h

end Go.Proofs.YtgpmlhpgdalheaaGreat
