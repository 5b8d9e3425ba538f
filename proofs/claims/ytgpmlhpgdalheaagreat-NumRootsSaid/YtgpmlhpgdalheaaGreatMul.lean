/- 'nat.mul': the product of two numbers in words. Condition: at most 2^45 words each. -/
import Derived.Test.YtgpmlhpgdalheaaGreatCmp
namespace Go.Proofs.YtgpmlhpgdalheaaGreat
open Go.RowKit Pl

/-- A row that holds the words of n. -/
def rowN (n j : Nat) : Value := .int .u32 (wd n j : Nat)
/-- A row that holds the words of n below m, and those of p from m on. -/
def rowM (n p m j : Nat) : Value := .int .u32 ((if j < m then wd n j else wd p j : Nat) : Int)

theorem rowN_zero (j : Nat) : rowN 0 j = .int .u32 0 := by simp [rowN, wd_zero]
theorem rowM_at (n p m : Nat) : rowM n p m m = .int .u32 (wd p m : Nat) := by simp [rowM]

theorem mul_in {P Y a i k j : Nat} {v : Value} (hv : v = .int .u32 (wd (mt P Y a i (k + 1)) (i + k) : Nat)) : (if j = i + k then v else rowM (mt P Y a i k) P (i + k) j) = rowM (mt P Y a i (k + 1)) P (i + (k + 1)) j := by
  unfold rowM
  by_cases h : j = i + k
  · subst h; rw [if_pos rfl, hv, if_pos (by omega)]
  · rw [if_neg h]
    by_cases h2 : j < i + k
    · rw [if_pos h2, if_pos (by omega), mt_low _ _ _ _ _ _ h2]
    · rw [if_neg h2, if_neg (by omega)]

theorem mul_start (P Y a i j : Nat) : rowN P j = rowM (mt P Y a i 0) P (i + 0) j := by
  unfold rowN rowM
  by_cases h : j < i + 0
  · rw [if_pos h, mt_zero_low _ _ _ _ _ (by omega)]
  · rw [if_neg h]

/-- The product of the words of X below i, and Y. -/
def pp (X Y i : Nat) : Nat := X % 4294967296 ^ i * Y
theorem pp_zero (X Y : Nat) : pp X Y 0 = 0 := by simp [pp, Nat.mod_one]
theorem pp_lt (X Y i : Nat) : pp X Y i < 4294967296 ^ (i + ln Y) := mul_part_lt X Y i
theorem pp_end (X Y : Nat) : pp X Y (ln X) = X * Y := by unfold pp; rw [Nat.mod_eq_of_lt (lt_ln X)]
theorem pp_next (X Y i : Nat) : mt (pp X Y i) Y (wd X i) i (ln Y) = pp X Y (i + 1) := by
  rw [mt_end (pp_lt X Y i) (lt_ln Y)]; exact mul_round X Y i

theorem mul_out {X Y i j : Nat} {v : Value} (hv : v = .int .u32 (mc (pp X Y i) Y (wd X i) i (ln Y) : Nat)) : (if j = i + ln Y then v else rowM (mt (pp X Y i) Y (wd X i) i (ln Y)) (pp X Y i) (i + ln Y) j) = rowN (pp X Y (i + 1)) j := by
  rw [pp_next]
  have e : mc (pp X Y i) Y (wd X i) i (ln Y) = wd (pp X Y (i + 1)) (i + ln Y) := by
    rw [mc, pp_next, lin_top (by have := pp_lt X Y (i + 1); rw [show i + 1 + ln Y = i + ln Y + 1 by omega] at this; exact this)]
  unfold rowM rowN
  by_cases h : j = i + ln Y
  · subst h; rw [if_pos rfl, hv, e]
  · rw [if_neg h]
    by_cases h2 : j < i + ln Y
    · rw [if_pos h2]
    · rw [if_neg h2, wd_top (pp_lt X Y i) (by omega), wd_top (pp_lt X Y (i + 1)) (by omega)]

theorem prod_le {a b : Nat} (ha : a < 4294967296) (hb : b < 4294967296) : (a : Int) * (b : Int) ≤ 18446744065119617025 := by
  have h : a * b ≤ 4294967295 * 4294967295 := Nat.mul_le_mul (by omega) (by omega)
  have e : ((a * b : Nat) : Int) = (a : Int) * (b : Int) := Int.natCast_mul a b
  omega

set_option maxHeartbeats 1000000 in
theorem mul_pos (x y : Nat) (A B : Option Addr) (w : World) (hx : Nat32 w A x) (hy : Nat32 w B y) (hbx : ln x ≤ 35184372088832) (hby : ln y ≤ 35184372088832) (hx0 : x ≠ 0) (hy0 : y ≠ 0) :
    Calls Tryz.prog 99 #[.slice A (ln x) (ln x), .slice B (ln y) (ln y)] w (RetNat w (x * y)) := by
  have hmk := mk_nat (ln x + ln y) (by omega)
  have ec : ((ln x + ln y : Nat) : Int) = (ln x : Int) + (ln y : Int) := by omega
  rw [ec] at hmk
  clear ec
  have lx := ln_pos hx0
  have ly := ln_pos hy0
  have t1 : ((ln x : Int) == 0) = false := by simpa using fun e => by omega
  have t2 : ((ln y : Int) == 0) = false := by simpa using fun e => by omega
  have hN : x * y < 4294967296 ^ (ln x + ln y) := lt_of_ln (ln_mul x y)
  obtain ⟨b, rfl, hb, hcx⟩ := hx hx0
  obtain ⟨b', rfl, hb', hcy⟩ := hy hy0
  have HX := Lib.hid hcx
  have HY := Lib.hid hcy
  clear hcx hcy
  go_enter Tryz.func99, Tryz.ntmps99
  go_wp2_with fail
  have hrow := (World.rowIs_made w (.int .u32 0) (ln x + ln y) 45).congr (g := rowN (pp x y 0)) fun j _ => by rw [pp_zero, rowN_zero]
  have hbel := (Below.refl w.heap.size w).alloc (Nat.le_refl _) (.cells (madeCells #[.int .u32 0] (ln x + ln y)) 45)
  go_loopw [27] (fun i wr => ∃ k : Nat, k ≤ ln x ∧ i = .int .i64 k ∧ wr.rowIs w.heap.size 45 (ln x + ln y) (rowN (pp x y k)) ∧ Below w.heap.size w wr) (fun i _ => ln x - (intOf i).toNat)
  case atStart => exact ⟨0, Nat.zero_le _, rfl, hrow, hbel⟩
  case round =>
    obtain ⟨i, hi, rfl, hrowi, hbeli⟩ := hrel
    clear hrow hbel hmk
    obtain ⟨wo, rfl⟩ : ∃ wo : World, wo = wr := ⟨_, rfl⟩
    by_cases hlt : i < ln x
    · have hxi := (hbeli.cell (p := ⟨b, i, none⟩) hb).trans (HX.out i hlt)
      have b1 := wd_lt x i
      go_wp2_with fail
      have hrow0 := hrowi.congr (g := rowM (mt (pp x y i) y (wd x i) i 0) (pp x y i) (i + 0)) fun j _ => mul_start _ _ _ _ _
      go_loopw [8, 34] (fun c kk wr => ∃ k : Nat, k ≤ ln y ∧ kk = .int .i64 k ∧ c = .int .u64 (mc (pp x y i) y (wd x i) i k : Nat) ∧ wr.rowIs w.heap.size 45 (ln x + ln y) (rowM (mt (pp x y i) y (wd x i) i k) (pp x y i) (i + k)) ∧ Below w.heap.size w wr) (fun _ kk _ => ln y - (intOf kk).toNat)
      case atStart => exact ⟨0, Nat.zero_le _, rfl, by rw [mc_zero]; rfl, hrow0, hbeli⟩
      case round =>
        obtain ⟨k, hk, rfl, rfl, hrowk, hbelk⟩ := hrel
        clear hrow0 hrowi hbeli hxi
        have bc := mc_lt b1 (pp x y i) y i k
        by_cases hly : k < ln y
        · have hyk := (hbelk.cell (p := ⟨b', k, none⟩) hb').trans (HY.out k hly)
          have hst := hrowk.cell (i := i + k) (by omega)
          rw [rowM_at] at hst
          have hfr := hrowk.frozen (i + k)
          have b2 := wd_lt y k
          have b3 := wd_lt (pp x y i) (i + k)
          have b4 := prod_le b1 b2
          have b5 : 0 ≤ (wd x i : Int) * (wd y k : Int) := Int.mul_nonneg (by omega) (by omega)
          go_wp2
          have e1 := mt_word (pp x y i) y (wd x i) i k
          have e2 := mt_carry (pp x y i) y (wd x i) i k
          have e3 : ((wd x i * wd y k : Nat) : Int) = (wd x i : Int) * (wd y k : Int) := Int.natCast_mul _ _
          go_roundw
          case rel => exact ⟨k + 1, by omega, by go_num, int_val (by rw [e2]; omega), (hrowk.set _ _).congr fun j _ => mul_in (int_val (by rw [e1]; omega)), hbelk.setCell (by simp) _⟩
          case measure => simp [intOf]; omega
        · obtain rfl : k = ln y := by omega
          have hst := hrowk.cell (i := i + ln y) (by omega)
          have hfr := hrowk.frozen (i + ln y)
          go_wp2
          go_roundw
          case rel => exact ⟨i + 1, by omega, by go_num, (hrowk.set _ _).congr fun j _ => mul_out rfl, hbelk.setCell (by simp) _⟩
          case measure => simp [intOf]; omega
    · obtain rfl : i = ln x := by omega
      go_wp2_with fail
      refine (trim_any _ w.heap.size (ln x + ln y) (ln x + ln y) (x * y) (by omega) (by omega) hN fun j hj => by rw [hrowi.cell hj, pp_end]; rfl).mono ?_
      rintro e w' ⟨rfl, rfl⟩
      go_wp2
      go_ret
      exact ⟨_, rfl, Nat32.ofRow hrowi (ln_le hN) fun j hj => by rw [pp_end]; rfl, hbeli⟩

theorem retNat_nil {w w' : World} {n : Nat} (hn : n = 0) (h : Below w.heap.size w w') : RetNat w n (.returned (.slice none 0 0)) w' := by
  subst hn
  exact ⟨none, by rw [ln_zero], Nat32.zero _ _, h⟩

set_option maxHeartbeats 400000 in
/-- 'x.mul(y)'. -/
theorem mul_any (x y : Nat) (A B : Option Addr) (w : World) (hx : Nat32 w A x) (hy : Nat32 w B y) (hbx : ln x ≤ 35184372088832) (hby : ln y ≤ 35184372088832) :
    Calls Tryz.prog 99 #[.slice A (ln x) (ln x), .slice B (ln y) (ln y)] w (RetNat w (x * y)) := by
  by_cases hx0 : x = 0
  · have h := retNat_nil (w := w) (w' := w) (n := x * y) (by rw [hx0, Nat.zero_mul]) (Below.refl _ _)
    have t1 : ((ln x : Int) == 0) = true := by rw [hx0, ln_zero]; rfl
    have H := Lib.hid h
    clear h hx0
    go_enter Tryz.func99, Tryz.ntmps99
    go_wp2
    go_ret
    exact H.out
  · by_cases hy0 : y = 0
    · have h := retNat_nil (w := w) (w' := w) (n := x * y) (by rw [hy0, Nat.mul_zero]) (Below.refl _ _)
      have lx := ln_pos hx0
      have t1 : ((ln x : Int) == 0) = false := by simpa using fun e => by omega
      have t2 : ((ln y : Int) == 0) = true := by rw [hy0, ln_zero]; rfl
      have H := Lib.hid h
      clear h hx0 hy0
      go_enter Tryz.func99, Tryz.ntmps99
      go_wp2
      go_ret
      exact H.out
    · exact mul_pos x y A B w hx hy hbx hby hx0 hy0

end Go.Proofs.YtgpmlhpgdalheaaGreat
