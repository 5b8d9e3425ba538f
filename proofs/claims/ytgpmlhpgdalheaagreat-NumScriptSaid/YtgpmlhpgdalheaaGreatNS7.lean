/- Part 7 of the proof. -/
import Derived.Test.YtgpmlhpgdalheaaGreatNS6
import Derived.Test.YtgpmlhpgdalheaaGreatNS1
import Derived.RegionTactic
import Derived.Deep.DeepCutAuto
import Derived.Test.YtgpmlhpgdalheaaGreatNS3
namespace Go.Proofs.YtgpmlhpgdalheaaGreat
open Go.RowKit Pl
set_option linter.unusedVariables false
set_option linter.unusedSimpArgs false
theorem sub_top64 {a b c d : Nat} (ha : a < 4294967296) (hb : b < 4294967296) (hc : c ≤ 1) (h : bw a b c = d) : IntKind.u64.wrap (IntKind.u64.wrap ((a : Int) - (c : Int)) - (b : Int)) / 9223372036854775808 = (d : Int) := by
  rw [← h]; unfold bw; simp only [IntKind.wrap, IntKind.bits, IntKind.signed]
  by_cases hh : a < b + c
  · rw [if_pos hh]; simp; omega
  · rw [if_neg hh]; simp; omega
theorem sub_low64 {a b c d : Nat} (ha : a < 4294967296) (hb : b < 4294967296) (hc : c ≤ 1) (h : (a + 8589934592 - b - c) % 4294967296 = d) : IntKind.u64.wrap (IntKind.u64.wrap ((a : Int) - (c : Int)) - (b : Int)) % 4294967296 = (d : Int) := by
  rw [← h]; simp only [IntKind.wrap, IntKind.bits, IntKind.signed]
  simp; omega
theorem sub_top64' {a b c d : Nat} (ha : a < 4294967296) (hb : b = 0) (hc : c ≤ 1) (h : bw a b c = d) : IntKind.u64.wrap ((a : Int) - (c : Int)) / 9223372036854775808 = (d : Int) := by
  rw [← h, hb]; unfold bw; simp only [IntKind.wrap, IntKind.bits, IntKind.signed]
  by_cases hh : a < 0 + c
  · rw [if_pos hh]; simp; omega
  · rw [if_neg hh]; simp; omega
theorem sub_low64' {a b c d : Nat} (ha : a < 4294967296) (hb : b = 0) (hc : c ≤ 1) (h : (a + 8589934592 - b - c) % 4294967296 = d) : IntKind.u64.wrap ((a : Int) - (c : Int)) % 4294967296 = (d : Int) := by
  rw [← h, hb]; simp only [IntKind.wrap, IntKind.bits, IntKind.signed]
  simp; omega
set_option maxHeartbeats 1000000 in
theorem rnatAdd_ge (x y : Nat) (A B : Option Addr) (c d : Nat) (w : World) (hx : Nat32 w A x) (hy : Nat32 w B y) (hbx : ln x ≤ 35184372088832) (hl : ln y ≤ ln x) :
    Calls Tryz.prog 147 #[.slice A (ln x) c, .slice B (ln y) d] w (RetNatC w (x + y)) := by
  have hmk := mk_words (ln x + 1) (by omega)
  have ec : ((ln x + 1 : Nat) : Int) = (ln x : Int) + 1 := by omega
  rw [ec] at hmk
  clear ec
  have hs : decide (ln x < ln y) = false := by simpa using hl
  have hle : ln y ≤ ln x := by omega
  clear hl
  go_enter Tryz.func147, Tryz.ntmps147
  go_wp2_with fail
  have hN : x + y < 4294967296 ^ (ln x + 1) := lt_of_ln (by have := ln_add x y; omega)
  have hrow := (World.rowIs_made w (.int .u32 0) (ln x + 1) 45).congr (g := part (x + y) 0) fun j _ => (part_zero _ _).symm
  have hbel := (Below.refl w.heap.size w).alloc (Nat.le_refl _) (.cells (madeCells #[.int .u32 0] (ln x + 1)) 45)
  clear hmk
  go_loopw [6, 7] (fun c i wr => ∃ k : Nat, k ≤ ln x ∧ i = .int .i64 k ∧ c = .int .u64 (cr x y k : Nat) ∧ wr.rowIs w.heap.size 45 (ln x + 1) (part (x + y) k) ∧ Below w.heap.size w wr) (fun _ i _ => ln x - (intOf i).toNat)
  case atStart => exact ⟨0, Nat.zero_le _, rfl, by rw [cr_zero]; rfl, hrow, hbel⟩
  case round =>
    obtain ⟨k, hk, rfl, rfl, hrowk, hbelk⟩ := hrel
    clear hrow hbel
    have hc1 := cr_le x y k
    by_cases hlt : k < ln x
    · have hx0 : x ≠ 0 := fun e => by rw [e, ln_zero] at hlt; omega
      obtain ⟨b, rfl, hb, hcx⟩ := hx hx0
      have hxk := (hbelk.cell (p := ⟨b, k, none⟩) hb).trans (hcx k hlt)
      have hst := hrowk.cell (i := k) (by omega)
      have hfr := hrowk.frozen k
      have b1 := wd_lt x k
      have b2 := wd_lt y k
      clear hcx
      by_cases hly : k < ln y
      · have hy0 : y ≠ 0 := fun e => by rw [e, ln_zero] at hly; omega
        obtain ⟨b', rfl, hb', hcy⟩ := hy hy0
        have hyk := (hbelk.cell (p := ⟨b', k, none⟩) hb').trans (hcy k hly)
        clear hcy
        go_wp2
        go_roundw
        case rel => exact ⟨k + 1, by omega, by go_num, int_val (by rw [← cr_step]; omega), (hrowk.set _ _).congr fun j _ => part_step _ _ _ _ (int_val (by rw [← cr_word]; omega)), hbelk.setCell (by simp) _⟩
        case measure => simp [intOf]; omega
      · have hyz := wd_high (n := y) (k := k) (by omega)
        go_wp2
        go_roundw
        case rel => exact ⟨k + 1, by omega, by go_num, int_val (by rw [← cr_step, hyz]; omega), (hrowk.set _ _).congr fun j _ => part_step _ _ _ _ (int_val (by rw [← cr_word, hyz]; omega)), hbelk.setCell (by simp) _⟩
        case measure => simp [intOf]; omega
    · obtain rfl : k = ln x := by omega
      have hst := hrowk.cell (i := ln x) (by omega)
      have hfr := hrowk.frozen (ln x)
      have htop := cr_top (lt_ln x) (lt_of_ln hle)
      have hrow2 := (hrowk.set (ln x) (.int .u32 (cr x y (ln x) : Nat))).congr (g := part (x + y) (ln x + 1)) fun j _ => part_step _ _ _ _ (by rw [htop])
      have hbel2 := hbelk.setCell (p := ⟨w.heap.size, ln x, none⟩) (Nat.le_refl _) (.int .u32 (cr x y (ln x) : Nat))
      have HT := Lib.hid htop
      clear htop
      go_wp2_with fail
      refine (rtrim_any _ w.heap.size (ln x + 1) (ln x + 1) (x + y) (by omega) (by omega) hN fun j hj => by rw [hrow2.cell hj, part_below hj]).mono ?_
      rintro e w' ⟨rfl, rfl⟩
      go_wp2
      go_ret
      exact ⟨_, _, rfl, Nat32.ofRow hrow2 (ln_le hN) fun j hj => part_below (by have := ln_le hN; omega), hbel2⟩
set_option maxHeartbeats 1000000 in
theorem rnatAdd_lt (x y : Nat) (A B : Option Addr) (c d : Nat) (w : World) (hx : Nat32 w A x) (hy : Nat32 w B y) (hbx : ln x ≤ 35184372088832) (hl : ln y < ln x) :
    Calls Tryz.prog 147 #[.slice B (ln y) d, .slice A (ln x) c] w (RetNatC w (x + y)) := by
  have hmk := mk_words (ln x + 1) (by omega)
  have ec : ((ln x + 1 : Nat) : Int) = (ln x : Int) + 1 := by omega
  rw [ec] at hmk
  clear ec
  have hs : decide (ln y < ln x) = true := by simpa using hl
  have hle : ln y ≤ ln x := by omega
  clear hl
  go_enter Tryz.func147, Tryz.ntmps147
  go_wp2_with fail
  have hN : x + y < 4294967296 ^ (ln x + 1) := lt_of_ln (by have := ln_add x y; omega)
  have hrow := (World.rowIs_made w (.int .u32 0) (ln x + 1) 45).congr (g := part (x + y) 0) fun j _ => (part_zero _ _).symm
  have hbel := (Below.refl w.heap.size w).alloc (Nat.le_refl _) (.cells (madeCells #[.int .u32 0] (ln x + 1)) 45)
  clear hmk
  go_loopw [6, 7] (fun c i wr => ∃ k : Nat, k ≤ ln x ∧ i = .int .i64 k ∧ c = .int .u64 (cr x y k : Nat) ∧ wr.rowIs w.heap.size 45 (ln x + 1) (part (x + y) k) ∧ Below w.heap.size w wr) (fun _ i _ => ln x - (intOf i).toNat)
  case atStart => exact ⟨0, Nat.zero_le _, rfl, by rw [cr_zero]; rfl, hrow, hbel⟩
  case round =>
    obtain ⟨k, hk, rfl, rfl, hrowk, hbelk⟩ := hrel
    clear hrow hbel
    have hc1 := cr_le x y k
    by_cases hlt : k < ln x
    · have hx0 : x ≠ 0 := fun e => by rw [e, ln_zero] at hlt; omega
      obtain ⟨b, rfl, hb, hcx⟩ := hx hx0
      have hxk := (hbelk.cell (p := ⟨b, k, none⟩) hb).trans (hcx k hlt)
      have hst := hrowk.cell (i := k) (by omega)
      have hfr := hrowk.frozen k
      have b1 := wd_lt x k
      have b2 := wd_lt y k
      clear hcx
      by_cases hly : k < ln y
      · have hy0 : y ≠ 0 := fun e => by rw [e, ln_zero] at hly; omega
        obtain ⟨b', rfl, hb', hcy⟩ := hy hy0
        have hyk := (hbelk.cell (p := ⟨b', k, none⟩) hb').trans (hcy k hly)
        clear hcy
        go_wp2
        go_roundw
        case rel => exact ⟨k + 1, by omega, by go_num, int_val (by rw [← cr_step]; omega), (hrowk.set _ _).congr fun j _ => part_step _ _ _ _ (int_val (by rw [← cr_word]; omega)), hbelk.setCell (by simp) _⟩
        case measure => simp [intOf]; omega
      · have hyz := wd_high (n := y) (k := k) (by omega)
        go_wp2
        go_roundw
        case rel => exact ⟨k + 1, by omega, by go_num, int_val (by rw [← cr_step, hyz]; omega), (hrowk.set _ _).congr fun j _ => part_step _ _ _ _ (int_val (by rw [← cr_word, hyz]; omega)), hbelk.setCell (by simp) _⟩
        case measure => simp [intOf]; omega
    · obtain rfl : k = ln x := by omega
      have hst := hrowk.cell (i := ln x) (by omega)
      have hfr := hrowk.frozen (ln x)
      have htop := cr_top (lt_ln x) (lt_of_ln hle)
      have hrow2 := (hrowk.set (ln x) (.int .u32 (cr x y (ln x) : Nat))).congr (g := part (x + y) (ln x + 1)) fun j _ => part_step _ _ _ _ (by rw [htop])
      have hbel2 := hbelk.setCell (p := ⟨w.heap.size, ln x, none⟩) (Nat.le_refl _) (.int .u32 (cr x y (ln x) : Nat))
      have HT := Lib.hid htop
      clear htop
      go_wp2_with fail
      refine (rtrim_any _ w.heap.size (ln x + 1) (ln x + 1) (x + y) (by omega) (by omega) hN fun j hj => by rw [hrow2.cell hj, part_below hj]).mono ?_
      rintro e w' ⟨rfl, rfl⟩
      go_wp2
      go_ret
      exact ⟨_, _, rfl, Nat32.ofRow hrow2 (ln_le hN) fun j hj => part_below (by have := ln_le hN; omega), hbel2⟩
/-- 'NatAdd'. -/
theorem rnatAdd_any (x y : Nat) (A B : Option Addr) (c d : Nat) (w : World) (hx : Nat32 w A x) (hy : Nat32 w B y) (hbx : ln x ≤ 35184372088832) (hby : ln y ≤ 35184372088832) :
    Calls Tryz.prog 147 #[.slice A (ln x) c, .slice B (ln y) d] w (RetNatC w (x + y)) := by
  rcases Nat.lt_or_ge (ln x) (ln y) with h | h
  · rw [Nat.add_comm]; exact rnatAdd_lt y x B A d c w hy hx hby h
  · exact rnatAdd_ge x y A B c d w hx hy hbx h
set_option maxHeartbeats 1000000 in
/-- 'NatSub'. -/
theorem rnatSub_any (x y : Nat) (A B : Option Addr) (c d : Nat) (w : World) (hx : Nat32 w A x) (hy : Nat32 w B y) (hbx : ln x ≤ 35184372088832) (hle : y ≤ x) :
    Calls Tryz.prog 165 #[.slice A (ln x) c, .slice B (ln y) d] w (RetNatC w (x - y)) := by
  have hmk := mk_words (ln x) (by omega)
  have hl := ln_mono hle
  go_enter Tryz.func165, Tryz.ntmps165
  go_wp2_with fail
  have hN : x - y < 4294967296 ^ ln x := lt_of_ln (ln_mono (Nat.sub_le _ _))
  have hrow := (World.rowIs_made w (.int .u32 0) (ln x) 45).congr (g := part (x - y) 0) fun j _ => (part_zero _ _).symm
  have hbel := (Below.refl w.heap.size w).alloc (Nat.le_refl _) (.cells (madeCells #[.int .u32 0] (ln x)) 45)
  clear hmk
  have HLE := Lib.hid hle
  clear hle
  go_loopw [6, 7] (fun c i wr => ∃ k : Nat, k ≤ ln x ∧ i = .int .i64 k ∧ c = .int .u64 (sb x y k : Nat) ∧ wr.rowIs w.heap.size 45 (ln x) (part (x - y) k) ∧ Below w.heap.size w wr) (fun _ i _ => ln x - (intOf i).toNat)
  case atStart => exact ⟨0, Nat.zero_le _, rfl, by rw [sb_zero]; rfl, hrow, hbel⟩
  case round =>
    obtain ⟨k, hk, rfl, rfl, hrowk, hbelk⟩ := hrel
    clear hrow hbel
    have hc1 := sb_le x y k
    by_cases hlt : k < ln x
    · have hx0 : x ≠ 0 := fun e => by rw [e, ln_zero] at hlt; omega
      obtain ⟨b, rfl, hb, hcx⟩ := hx hx0
      have hxk := (hbelk.cell (p := ⟨b, k, none⟩) hb).trans (hcx k hlt)
      have hst := hrowk.cell (i := k) (by omega)
      have hfr := hrowk.frozen k
      have b1 := wd_lt x k
      have b2 := wd_lt y k
      have e1 := sb_word k HLE.out
      have e2 := sb_step x y k
      have E1 := Lib.hid e1
      have E2 := Lib.hid e2
      clear hcx e1 e2
      by_cases hly : k < ln y
      · have hy0 : y ≠ 0 := fun e => by rw [e, ln_zero] at hly; omega
        obtain ⟨b', rfl, hb', hcy⟩ := hy hy0
        have hyk := (hbelk.cell (p := ⟨b', k, none⟩) hb').trans (hcy k hly)
        clear hcy
        go_wp2
        go_roundw
        case rel => exact ⟨k + 1, by omega, by go_num, int_val (sub_top64 b1 b2 hc1 E2.out), (hrowk.set _ _).congr fun j _ => part_step _ _ _ _ (int_val (sub_low64 b1 b2 hc1 E1.out)), hbelk.setCell (by simp) _⟩
        case measure => simp [intOf]; omega
      · have hyz := wd_high (n := y) (k := k) (by omega)
        have HYZ := Lib.hid hyz
        clear hyz
        go_wp2
        go_roundw
        case rel => exact ⟨k + 1, by omega, by go_num, int_val (sub_top64' b1 HYZ.out hc1 E2.out), (hrowk.set _ _).congr fun j _ => part_step _ _ _ _ (int_val (sub_low64' b1 HYZ.out hc1 E1.out)), hbelk.setCell (by simp) _⟩
        case measure => simp [intOf]; omega
    · obtain rfl : k = ln x := by omega
      go_wp2_with fail
      refine (rtrim_any _ w.heap.size (ln x) (ln x) (x - y) (by omega) (by omega) hN fun j hj => by rw [hrowk.cell hj, part_below hj]).mono ?_
      rintro e w' ⟨rfl, rfl⟩
      go_wp2
      go_ret
      exact ⟨_, _, rfl, Nat32.ofRow hrowk (ln_le hN) fun j hj => part_below (by have := ln_le hN; omega), hbelk⟩
set_option maxHeartbeats 1000000 in
/-- 'NatMul'. -/
theorem rnatMul_any (x y : Nat) (A B : Option Addr) (c d : Nat) (w : World) (hx : Nat32 w A x) (hy : Nat32 w B y) (hbx : ln x ≤ 35184372088832) (hby : ln y ≤ 35184372088832) :
    Calls Tryz.prog 103 #[.slice A (ln x) c, .slice B (ln y) d] w (RetNatC w (x * y)) := by
  have hmk := mk_words (ln x + ln y) (by omega)
  have ec : ((ln x + ln y : Nat) : Int) = (ln x : Int) + (ln y : Int) := by omega
  rw [ec] at hmk
  clear ec
  have hN : x * y < 4294967296 ^ (ln x + ln y) := lt_of_ln (ln_mul x y)
  go_enter Tryz.func103, Tryz.ntmps103
  go_wp2_with fail
  have hrow := (World.rowIs_made w (.int .u32 0) (ln x + ln y) 45).congr (g := rowN (pp x y 0)) fun j _ => by rw [pp_zero, rowN_zero]
  have hbel := (Below.refl w.heap.size w).alloc (Nat.le_refl _) (.cells (madeCells #[.int .u32 0] (ln x + ln y)) 45)
  clear hmk
  go_loopw [6] (fun i wr => ∃ k : Nat, k ≤ ln x ∧ i = .int .i64 k ∧ wr.rowIs w.heap.size 45 (ln x + ln y) (rowN (pp x y k)) ∧ Below w.heap.size w wr) (fun i _ => ln x - (intOf i).toNat)
  case atStart => exact ⟨0, Nat.zero_le _, rfl, hrow, hbel⟩
  case round =>
    obtain ⟨i, hi, rfl, hrowi, hbeli⟩ := hrel
    clear hrow hbel
    obtain ⟨wo, rfl⟩ : ∃ wo : World, wo = wr := ⟨_, rfl⟩
    by_cases hlt : i < ln x
    · have hx0 : x ≠ 0 := fun e => by rw [e, ln_zero] at hlt; omega
      obtain ⟨b, rfl, hb, hcx⟩ := hx hx0
      have HX := Lib.hid hcx
      clear hcx
      have b1 := wd_lt x i
      go_wp2_with fail
      have hrow0 := hrowi.congr (g := rowM (mt (pp x y i) y (wd x i) i 0) (pp x y i) (i + 0)) fun j _ => mul_start _ _ _ _ _
      go_loopw [7, 8] (fun c kk wr => ∃ k : Nat, k ≤ ln y ∧ kk = .int .i64 k ∧ c = .int .u64 (mc (pp x y i) y (wd x i) i k : Nat) ∧ wr.rowIs w.heap.size 45 (ln x + ln y) (rowM (mt (pp x y i) y (wd x i) i k) (pp x y i) (i + k)) ∧ Below w.heap.size w wr) (fun _ kk _ => ln y - (intOf kk).toNat)
      case atStart => exact ⟨0, Nat.zero_le _, rfl, by rw [mc_zero]; rfl, hrow0, hbeli⟩
      case round =>
        obtain ⟨k, hk, rfl, rfl, hrowk, hbelk⟩ := hrel
        clear hrow0 hrowi hbeli
        have bc := mc_lt b1 (pp x y i) y i k
        by_cases hly : k < ln y
        · have hy0 : y ≠ 0 := fun e => by rw [e, ln_zero] at hly; omega
          obtain ⟨b', rfl, hb', hcy⟩ := hy hy0
          have hxi := (hbelk.cell (p := ⟨b, i, none⟩) hb).trans (HX.out i hlt)
          have hyk := (hbelk.cell (p := ⟨b', k, none⟩) hb').trans (hcy k hly)
          clear hcy
          have hst := hrowk.cell (i := i + k) (by omega)
          rw [rowM_at] at hst
          have hfr := hrowk.frozen (i + k)
          have b2 := wd_lt y k
          have b3 := wd_lt (pp x y i) (i + k)
          have b4 := prod_le b1 b2
          have b5 : 0 ≤ (wd x i : Int) * (wd y k : Int) := Int.mul_nonneg (by omega) (by omega)
          go_wp2_with fail
          go_quiet (fail)
          go_wp2
          have e1 := mt_word (pp x y i) y (wd x i) i k
          have e2 := mt_carry (pp x y i) y (wd x i) i k
          have e3 : ((wd x i * wd y k : Nat) : Int) = (wd x i : Int) * (wd y k : Int) := Int.natCast_mul _ _
          go_roundw
          case rel => exact ⟨k + 1, by omega, by go_num, int_val (by rw [e2]; omega), (hrowk.set _ _).congr fun j _ => mul_in (int_val (by rw [e1]; omega)), (below_drewN hbelk _).setCell (by simp) _⟩
          case measure => simp [intOf]; omega
        · obtain rfl : k = ln y := by omega
          have hst := hrowk.cell (i := i + ln y) (by omega)
          have hfr := hrowk.frozen (i + ln y)
          go_wp2
          go_roundw
          case rel => exact ⟨i + 1, by omega, by go_num, (hrowk.set _ _).congr fun j _ => mul_out rfl, hbelk.setCell (by simp) _⟩
          case measure => simp [intOf]; omega
    · obtain rfl : i = ln x := by omega
      go_wp2_with fail
      refine (rtrim_any _ w.heap.size (ln x + ln y) (ln x + ln y) (x * y) (by omega) (by omega) hN fun j hj => by rw [hrowi.cell hj, pp_end]; rfl).mono ?_
      rintro e w' ⟨rfl, rfl⟩
      go_wp2
      go_ret
      exact ⟨_, _, rfl, Nat32.ofRow hrowi (ln_le hN) fun j hj => by rw [pp_end]; rfl, hbeli⟩
end Go.Proofs.YtgpmlhpgdalheaaGreat

namespace Go.Proofs.YtgpmlhpgdalheaaGreat
open Go.RowKit Pl
set_option linter.unusedVariables false
set_option linter.unusedSimpArgs false
set_option maxHeartbeats 4000000 in
theorem rplus_same (a b : Int) (A B : Option Addr) (cA cB : Nat) (w : World) (hx : Nat32 w A (ab a)) (hy : Nat32 w B (ab b)) (hbx : ln (ab a) ≤ 1099511627776) (hby : ln (ab b) ≤ 1099511627776) (h : sn a = sn b) :
    Calls Tryz.prog 101 #[.agg #[.bool (sn (a)), .slice A (ln (ab (a))) cA], .agg #[.bool (sn (b)), .slice B (ln (ab (b))) cB]] w (RetWholeC w (a + b)) := by
  have t : (sn a == sn b) = true := by rw [h]; simp
  rw [← plus_same h]
  clear h
  go_enter Tryz.func101, Tryz.ntmps101
  go_wp2_with fail
  obtain ⟨W, hW⟩ : ∃ W : World, W = (((w.alloc (.cells #[.bool (sn (a)), .slice A (ln (ab (a))) cA] 32)).alloc (.cells #[.bool (sn (b)), .slice B (ln (ab (b))) cB] 32)).alloc (.cells #[.bool false, .slice none 0 0] 32)) := ⟨_, rfl⟩
  have s0_0 : W.cell? ⟨w.heap.size, 0, none⟩ = some (.bool (sn (a))) := by subst hW; go_simp
  have s0_1 : W.cell? ⟨w.heap.size, 1, none⟩ = some (.slice A (ln (ab (a))) cA) := by subst hW; go_simp
  have s1_0 : W.cell? ⟨w.heap.size + 1, 0, none⟩ = some (.bool (sn (b))) := by subst hW; go_simp
  have s1_1 : W.cell? ⟨w.heap.size + 1, 1, none⟩ = some (.slice B (ln (ab (b))) cB) := by subst hW; go_simp
  have r0 : W.cell? ⟨w.heap.size + 1 + 1, 0, none⟩ = some (.bool false) := by subst hW; go_simp
  have f0 : W.frozen? ⟨w.heap.size + 1 + 1, 0, none⟩ = false := by subst hW; go_simp
  have r1 : W.cell? ⟨w.heap.size + 1 + 1, 1, none⟩ = some (.slice none 0 0) := by subst hW; go_simp
  have f1 : W.frozen? ⟨w.heap.size + 1 + 1, 1, none⟩ = false := by subst hW; go_simp
  have HW : Below w.heap.size w W := by subst hW; exact ((((Below.refl w.heap.size w).alloc (Nat.le_refl _) _).alloc (by simp) _).alloc (by simp; omega) _)
  have l0 : w.heap.size < W.heap.size := by subst hW; simp <;> omega
  have l1 : w.heap.size + 1 < W.heap.size := by subst hW; simp <;> omega
  have l2 : w.heap.size + 1 + 1 < W.heap.size := by subst hW; simp
  have n0 : w.heap.size ≠ w.heap.size + 1 + 1 := by omega
  have n1 : w.heap.size + 1 ≠ w.heap.size + 1 + 1 := by omega
  replace hx := hx.to HW
  replace hy := hy.to HW
  rw [← hW]
  clear hW
  replace HW := Lib.hid HW
  go_region_held3 (fun w' => w'.cell? ⟨w.heap.size, 0, none⟩ = some (.bool (sn (a))) ∧ w'.cell? ⟨w.heap.size, 1, none⟩ = some (.slice A (ln (ab (a))) cA) ∧ w'.cell? ⟨w.heap.size + 1, 1, none⟩ = some (.slice B (ln (ab (b))) cB)) (first | with_reducible exact ⟨s0_0, s0_1, s1_1⟩ | with_reducible exact ⟨(keeps (keeps s0_0 n0) n0), (keeps (keeps s0_1 n0) n0), (keeps (keeps s1_1 n1) n1)⟩ | exact ⟨s0_0, s0_1, s1_1⟩) (first
    | (go_at_call 147; refine (rnatAdd_any (ab a) (ab b) A B cA cB _ (by exact hx) (by exact hy) (by omega) (by omega)).mono ?_; rintro e w1 ⟨A1, c1, rfl, h1, hb1⟩; have hb1 := undrew hb1; replace s0_0 := keepc hb1 s0_0 l0; replace s0_1 := keepc hb1 s0_1 l0; replace s1_0 := keepc hb1 s1_0 l1; replace s1_1 := keepc hb1 s1_1 l1; replace r0 := keepc hb1 r0 l2; replace f0 := keepf hb1 f0 l2; replace r1 := keepc hb1 r1 l2; replace f1 := keepf hb1 f1 l2; replace l0 := Nat.lt_of_lt_of_le l0 hb1.size; replace l1 := Nat.lt_of_lt_of_le l1 hb1.size; replace l2 := Nat.lt_of_lt_of_le l2 hb1.size; replace hx := hx.to hb1; replace hy := hy.to hb1; replace HW := Lib.hid (hstep HW hb1); clear hb1)
    | (go_at_call 117; refine (rsigned_any (sn a) (ab a + ab b) A1 c1 _ (by exact h1)).mono ?_; rintro e w2 ⟨A2, c2, rfl, h2, hb2⟩; replace s0_0 := keepc hb2 s0_0 l0; replace s0_1 := keepc hb2 s0_1 l0; replace s1_0 := keepc hb2 s1_0 l1; replace s1_1 := keepc hb2 s1_1 l1; replace r0 := keepc hb2 r0 l2; replace f0 := keepf hb2 f0 l2; replace r1 := keepc hb2 r1 l2; replace f1 := keepf hb2 f1 l2; replace l0 := Nat.lt_of_lt_of_le l0 hb2.size; replace l1 := Nat.lt_of_lt_of_le l1 hb2.size; replace l2 := Nat.lt_of_lt_of_le l2 hb2.size; replace hx := hx.to hb2; replace hy := hy.to hb2; replace h1 := h1.to hb2; replace HW := Lib.hid (hstep HW hb2); clear hb2))
  go_wp2_with fail
  exact bodyPost_ret (v := .agg #[.bool (sn (zi (sn a) (ab a + ab b))), .slice A2 (ln (ab (zi (sn a) (ab a + ab b)))) c2]) (by simp [results, Tryz.results101, go_sem, r0, r1, f0, f1]) rfl (retWholeC_fin HW h2 (by omega) r0)
set_option maxHeartbeats 4000000 in
theorem rplus_ge (a b : Int) (A B : Option Addr) (cA cB : Nat) (w : World) (hx : Nat32 w A (ab a)) (hy : Nat32 w B (ab b)) (hbx : ln (ab a) ≤ 1099511627776) (hby : ln (ab b) ≤ 1099511627776) (h : sn a ≠ sn b) (hle : ab b ≤ ab a) :
    Calls Tryz.prog 101 #[.agg #[.bool (sn (a)), .slice A (ln (ab (a))) cA], .agg #[.bool (sn (b)), .slice B (ln (ab (b))) cB]] w (RetWholeC w (a + b)) := by
  have t : (sn a == sn b) = false := by simpa using h
  have t2 : decide (0 ≤ cmpN (ab a) (ab b)) = true := by rw [decide_eq_true_eq]; unfold cmpN; rw [if_neg (by omega)]; split <;> omega
  rw [← plus_ge h hle]
  have HL := Lib.hid hle
  clear h hle
  go_enter Tryz.func101, Tryz.ntmps101
  go_wp2_with fail
  obtain ⟨W, hW⟩ : ∃ W : World, W = (((w.alloc (.cells #[.bool (sn (a)), .slice A (ln (ab (a))) cA] 32)).alloc (.cells #[.bool (sn (b)), .slice B (ln (ab (b))) cB] 32)).alloc (.cells #[.bool false, .slice none 0 0] 32)) := ⟨_, rfl⟩
  have s0_0 : W.cell? ⟨w.heap.size, 0, none⟩ = some (.bool (sn (a))) := by subst hW; go_simp
  have s0_1 : W.cell? ⟨w.heap.size, 1, none⟩ = some (.slice A (ln (ab (a))) cA) := by subst hW; go_simp
  have s1_0 : W.cell? ⟨w.heap.size + 1, 0, none⟩ = some (.bool (sn (b))) := by subst hW; go_simp
  have s1_1 : W.cell? ⟨w.heap.size + 1, 1, none⟩ = some (.slice B (ln (ab (b))) cB) := by subst hW; go_simp
  have r0 : W.cell? ⟨w.heap.size + 1 + 1, 0, none⟩ = some (.bool false) := by subst hW; go_simp
  have f0 : W.frozen? ⟨w.heap.size + 1 + 1, 0, none⟩ = false := by subst hW; go_simp
  have r1 : W.cell? ⟨w.heap.size + 1 + 1, 1, none⟩ = some (.slice none 0 0) := by subst hW; go_simp
  have f1 : W.frozen? ⟨w.heap.size + 1 + 1, 1, none⟩ = false := by subst hW; go_simp
  have HW : Below w.heap.size w W := by subst hW; exact ((((Below.refl w.heap.size w).alloc (Nat.le_refl _) _).alloc (by simp) _).alloc (by simp; omega) _)
  have l0 : w.heap.size < W.heap.size := by subst hW; simp <;> omega
  have l1 : w.heap.size + 1 < W.heap.size := by subst hW; simp <;> omega
  have l2 : w.heap.size + 1 + 1 < W.heap.size := by subst hW; simp
  have n0 : w.heap.size ≠ w.heap.size + 1 + 1 := by omega
  have n1 : w.heap.size + 1 ≠ w.heap.size + 1 + 1 := by omega
  replace hx := hx.to HW
  replace hy := hy.to HW
  rw [← hW]
  clear hW
  replace HW := Lib.hid HW
  refine (rcmp_any (ab a) (ab b) A B cA cB _ (by exact hx) (by exact hy) (by omega)).mono ?_
  rintro e w1 ⟨rfl, hb1⟩
  replace s0_0 := keepc hb1 s0_0 l0
  replace s0_1 := keepc hb1 s0_1 l0
  replace s1_0 := keepc hb1 s1_0 l1
  replace s1_1 := keepc hb1 s1_1 l1
  replace r0 := keepc hb1 r0 l2
  replace f0 := keepf hb1 f0 l2
  replace r1 := keepc hb1 r1 l2
  replace f1 := keepf hb1 f1 l2
  replace l0 := Nat.lt_of_lt_of_le l0 hb1.size
  replace l1 := Nat.lt_of_lt_of_le l1 hb1.size
  replace l2 := Nat.lt_of_lt_of_le l2 hb1.size
  replace hx := hx.to hb1
  replace hy := hy.to hb1
  replace HW := Lib.hid (hstep HW hb1)
  clear hb1
  go_wp2_with fail
  go_region_held3 (fun w' => w'.cell? ⟨w.heap.size, 0, none⟩ = some (.bool (sn (a))) ∧ w'.cell? ⟨w.heap.size, 1, none⟩ = some (.slice A (ln (ab (a))) cA) ∧ w'.cell? ⟨w.heap.size + 1, 1, none⟩ = some (.slice B (ln (ab (b))) cB)) (first | with_reducible exact ⟨s0_0, s0_1, s1_1⟩ | with_reducible exact ⟨(keeps (keeps s0_0 n0) n0), (keeps (keeps s0_1 n0) n0), (keeps (keeps s1_1 n1) n1)⟩ | exact ⟨s0_0, s0_1, s1_1⟩) (first
    | (go_at_call 165; refine (rnatSub_any (ab a) (ab b) A B cA cB _ (by exact hx) (by exact hy) (by omega) HL.out).mono ?_; rintro e w2 ⟨A2, c2, rfl, h2, hb2⟩; have hb2 := undrew hb2; replace s0_0 := keepc hb2 s0_0 l0; replace s0_1 := keepc hb2 s0_1 l0; replace s1_0 := keepc hb2 s1_0 l1; replace s1_1 := keepc hb2 s1_1 l1; replace r0 := keepc hb2 r0 l2; replace f0 := keepf hb2 f0 l2; replace r1 := keepc hb2 r1 l2; replace f1 := keepf hb2 f1 l2; replace l0 := Nat.lt_of_lt_of_le l0 hb2.size; replace l1 := Nat.lt_of_lt_of_le l1 hb2.size; replace l2 := Nat.lt_of_lt_of_le l2 hb2.size; replace hx := hx.to hb2; replace hy := hy.to hb2; replace HW := Lib.hid (hstep HW hb2); clear hb2)
    | (go_at_call 117; refine (rsigned_any (sn a) (ab a - ab b) A2 c2 _ (by exact h2)).mono ?_; rintro e w3 ⟨A3, c3, rfl, h3, hb3⟩; replace s0_0 := keepc hb3 s0_0 l0; replace s0_1 := keepc hb3 s0_1 l0; replace s1_0 := keepc hb3 s1_0 l1; replace s1_1 := keepc hb3 s1_1 l1; replace r0 := keepc hb3 r0 l2; replace f0 := keepf hb3 f0 l2; replace r1 := keepc hb3 r1 l2; replace f1 := keepf hb3 f1 l2; replace l0 := Nat.lt_of_lt_of_le l0 hb3.size; replace l1 := Nat.lt_of_lt_of_le l1 hb3.size; replace l2 := Nat.lt_of_lt_of_le l2 hb3.size; replace hx := hx.to hb3; replace hy := hy.to hb3; replace h2 := h2.to hb3; replace HW := Lib.hid (hstep HW hb3); clear hb3))
  go_wp2_with fail
  exact bodyPost_ret (v := .agg #[.bool (sn (zi (sn a) (ab a - ab b))), .slice A3 (ln (ab (zi (sn a) (ab a - ab b)))) c3]) (by simp [results, Tryz.results101, go_sem, r0, r1, f0, f1]) rfl (retWholeC_fin HW h3 (by omega) r0)
set_option maxHeartbeats 4000000 in
theorem rplus_lt (a b : Int) (A B : Option Addr) (cA cB : Nat) (w : World) (hx : Nat32 w A (ab a)) (hy : Nat32 w B (ab b)) (hbx : ln (ab a) ≤ 1099511627776) (hby : ln (ab b) ≤ 1099511627776) (h : sn a ≠ sn b) (hle : ab a < ab b) :
    Calls Tryz.prog 101 #[.agg #[.bool (sn (a)), .slice A (ln (ab (a))) cA], .agg #[.bool (sn (b)), .slice B (ln (ab (b))) cB]] w (RetWholeC w (a + b)) := by
  have t : (sn a == sn b) = false := by simpa using h
  have t2 : decide (0 ≤ cmpN (ab a) (ab b)) = false := by rw [cmpN_lt hle]; rfl
  rw [← plus_lt h hle]
  have HL := Lib.hid (Nat.le_of_lt hle)
  clear h hle
  go_enter Tryz.func101, Tryz.ntmps101
  go_wp2_with fail
  obtain ⟨W, hW⟩ : ∃ W : World, W = (((w.alloc (.cells #[.bool (sn (a)), .slice A (ln (ab (a))) cA] 32)).alloc (.cells #[.bool (sn (b)), .slice B (ln (ab (b))) cB] 32)).alloc (.cells #[.bool false, .slice none 0 0] 32)) := ⟨_, rfl⟩
  have s0_0 : W.cell? ⟨w.heap.size, 0, none⟩ = some (.bool (sn (a))) := by subst hW; go_simp
  have s0_1 : W.cell? ⟨w.heap.size, 1, none⟩ = some (.slice A (ln (ab (a))) cA) := by subst hW; go_simp
  have s1_0 : W.cell? ⟨w.heap.size + 1, 0, none⟩ = some (.bool (sn (b))) := by subst hW; go_simp
  have s1_1 : W.cell? ⟨w.heap.size + 1, 1, none⟩ = some (.slice B (ln (ab (b))) cB) := by subst hW; go_simp
  have r0 : W.cell? ⟨w.heap.size + 1 + 1, 0, none⟩ = some (.bool false) := by subst hW; go_simp
  have f0 : W.frozen? ⟨w.heap.size + 1 + 1, 0, none⟩ = false := by subst hW; go_simp
  have r1 : W.cell? ⟨w.heap.size + 1 + 1, 1, none⟩ = some (.slice none 0 0) := by subst hW; go_simp
  have f1 : W.frozen? ⟨w.heap.size + 1 + 1, 1, none⟩ = false := by subst hW; go_simp
  have HW : Below w.heap.size w W := by subst hW; exact ((((Below.refl w.heap.size w).alloc (Nat.le_refl _) _).alloc (by simp) _).alloc (by simp; omega) _)
  have l0 : w.heap.size < W.heap.size := by subst hW; simp <;> omega
  have l1 : w.heap.size + 1 < W.heap.size := by subst hW; simp <;> omega
  have l2 : w.heap.size + 1 + 1 < W.heap.size := by subst hW; simp
  have n0 : w.heap.size ≠ w.heap.size + 1 + 1 := by omega
  have n1 : w.heap.size + 1 ≠ w.heap.size + 1 + 1 := by omega
  replace hx := hx.to HW
  replace hy := hy.to HW
  rw [← hW]
  clear hW
  replace HW := Lib.hid HW
  refine (rcmp_any (ab a) (ab b) A B cA cB _ (by exact hx) (by exact hy) (by omega)).mono ?_
  rintro e w1 ⟨rfl, hb1⟩
  replace s0_0 := keepc hb1 s0_0 l0
  replace s0_1 := keepc hb1 s0_1 l0
  replace s1_0 := keepc hb1 s1_0 l1
  replace s1_1 := keepc hb1 s1_1 l1
  replace r0 := keepc hb1 r0 l2
  replace f0 := keepf hb1 f0 l2
  replace r1 := keepc hb1 r1 l2
  replace f1 := keepf hb1 f1 l2
  replace l0 := Nat.lt_of_lt_of_le l0 hb1.size
  replace l1 := Nat.lt_of_lt_of_le l1 hb1.size
  replace l2 := Nat.lt_of_lt_of_le l2 hb1.size
  replace hx := hx.to hb1
  replace hy := hy.to hb1
  replace HW := Lib.hid (hstep HW hb1)
  clear hb1
  go_wp2_with fail
  go_region_held3 (fun w' => w'.cell? ⟨w.heap.size, 1, none⟩ = some (.slice A (ln (ab (a))) cA) ∧ w'.cell? ⟨w.heap.size + 1, 0, none⟩ = some (.bool (sn (b))) ∧ w'.cell? ⟨w.heap.size + 1, 1, none⟩ = some (.slice B (ln (ab (b))) cB)) (first | with_reducible exact ⟨s0_1, s1_0, s1_1⟩ | with_reducible exact ⟨(keeps (keeps s0_1 n0) n0), (keeps (keeps s1_0 n1) n1), (keeps (keeps s1_1 n1) n1)⟩ | exact ⟨s0_1, s1_0, s1_1⟩) (first
    | (go_at_call 165; refine (rnatSub_any (ab b) (ab a) B A cB cA _ (by exact hy) (by exact hx) (by omega) HL.out).mono ?_; rintro e w2 ⟨A2, c2, rfl, h2, hb2⟩; have hb2 := undrew hb2; replace s0_0 := keepc hb2 s0_0 l0; replace s0_1 := keepc hb2 s0_1 l0; replace s1_0 := keepc hb2 s1_0 l1; replace s1_1 := keepc hb2 s1_1 l1; replace r0 := keepc hb2 r0 l2; replace f0 := keepf hb2 f0 l2; replace r1 := keepc hb2 r1 l2; replace f1 := keepf hb2 f1 l2; replace l0 := Nat.lt_of_lt_of_le l0 hb2.size; replace l1 := Nat.lt_of_lt_of_le l1 hb2.size; replace l2 := Nat.lt_of_lt_of_le l2 hb2.size; replace hx := hx.to hb2; replace hy := hy.to hb2; replace HW := Lib.hid (hstep HW hb2); clear hb2)
    | (go_at_call 117; refine (rsigned_any (sn b) (ab b - ab a) A2 c2 _ (by exact h2)).mono ?_; rintro e w3 ⟨A3, c3, rfl, h3, hb3⟩; replace s0_0 := keepc hb3 s0_0 l0; replace s0_1 := keepc hb3 s0_1 l0; replace s1_0 := keepc hb3 s1_0 l1; replace s1_1 := keepc hb3 s1_1 l1; replace r0 := keepc hb3 r0 l2; replace f0 := keepf hb3 f0 l2; replace r1 := keepc hb3 r1 l2; replace f1 := keepf hb3 f1 l2; replace l0 := Nat.lt_of_lt_of_le l0 hb3.size; replace l1 := Nat.lt_of_lt_of_le l1 hb3.size; replace l2 := Nat.lt_of_lt_of_le l2 hb3.size; replace hx := hx.to hb3; replace hy := hy.to hb3; replace h2 := h2.to hb3; replace HW := Lib.hid (hstep HW hb3); clear hb3))
  go_wp2_with fail
  exact bodyPost_ret (v := .agg #[.bool (sn (zi (sn b) (ab b - ab a))), .slice A3 (ln (ab (zi (sn b) (ab b - ab a)))) c3]) (by simp [results, Tryz.results101, go_sem, r0, r1, f0, f1]) rfl (retWholeC_fin HW h3 (by omega) r0)
/-- 'IntAdd'. -/
theorem rplus_any (a b : Int) (A B : Option Addr) (cA cB : Nat) (w : World) (hx : Nat32 w A (ab a)) (hy : Nat32 w B (ab b)) (hbx : ln (ab a) ≤ 1099511627776) (hby : ln (ab b) ≤ 1099511627776) :
    Calls Tryz.prog 101 #[.agg #[.bool (sn (a)), .slice A (ln (ab (a))) cA], .agg #[.bool (sn (b)), .slice B (ln (ab (b))) cB]] w (RetWholeC w (a + b)) := by
  by_cases h : sn a = sn b
  · exact rplus_same a b A B cA cB w hx hy hbx hby h
  · rcases Nat.lt_or_ge (ab a) (ab b) with h2 | h2
    · exact rplus_lt a b A B cA cB w hx hy hbx hby h h2
    · exact rplus_ge a b A B cA cB w hx hy hbx hby h h2
set_option maxHeartbeats 4000000 in
theorem rsub_any (a b : Int) (A B : Option Addr) (cA cB : Nat) (w : World) (hx : Nat32 w A (ab a)) (hy : Nat32 w B (ab b)) (hbx : ln (ab a) ≤ 1099511627776) (hby : ln (ab b) ≤ 1099511627776) :
    Calls Tryz.prog 106 #[.agg #[.bool (sn (a)), .slice A (ln (ab (a))) cA], .agg #[.bool (sn (b)), .slice B (ln (ab (b))) cB]] w (RetWholeC w (a - b)) := by
  rw [Int.sub_eq_add_neg]
  go_enter Tryz.func106, Tryz.ntmps106
  go_wp2_with fail
  obtain ⟨W, hW⟩ : ∃ W : World, W = (((w.alloc (.cells #[.bool (sn (a)), .slice A (ln (ab (a))) cA] 32)).alloc (.cells #[.bool (sn (b)), .slice B (ln (ab (b))) cB] 32)).alloc (.cells #[.bool false, .slice none 0 0] 32)) := ⟨_, rfl⟩
  have s0_0 : W.cell? ⟨w.heap.size, 0, none⟩ = some (.bool (sn (a))) := by subst hW; go_simp
  have s0_1 : W.cell? ⟨w.heap.size, 1, none⟩ = some (.slice A (ln (ab (a))) cA) := by subst hW; go_simp
  have s1_0 : W.cell? ⟨w.heap.size + 1, 0, none⟩ = some (.bool (sn (b))) := by subst hW; go_simp
  have s1_1 : W.cell? ⟨w.heap.size + 1, 1, none⟩ = some (.slice B (ln (ab (b))) cB) := by subst hW; go_simp
  have r0 : W.cell? ⟨w.heap.size + 1 + 1, 0, none⟩ = some (.bool false) := by subst hW; go_simp
  have f0 : W.frozen? ⟨w.heap.size + 1 + 1, 0, none⟩ = false := by subst hW; go_simp
  have r1 : W.cell? ⟨w.heap.size + 1 + 1, 1, none⟩ = some (.slice none 0 0) := by subst hW; go_simp
  have f1 : W.frozen? ⟨w.heap.size + 1 + 1, 1, none⟩ = false := by subst hW; go_simp
  have HW : Below w.heap.size w W := by subst hW; exact ((((Below.refl w.heap.size w).alloc (Nat.le_refl _) _).alloc (by simp) _).alloc (by simp; omega) _)
  have l0 : w.heap.size < W.heap.size := by subst hW; simp <;> omega
  have l1 : w.heap.size + 1 < W.heap.size := by subst hW; simp <;> omega
  have l2 : w.heap.size + 1 + 1 < W.heap.size := by subst hW; simp
  have n0 : w.heap.size ≠ w.heap.size + 1 + 1 := by omega
  have n1 : w.heap.size + 1 ≠ w.heap.size + 1 + 1 := by omega
  replace hx := hx.to HW
  replace hy := hy.to HW
  rw [← hW]
  clear hW
  replace HW := Lib.hid HW
  go_region_held3 (fun w' => w'.cell? ⟨w.heap.size, 0, none⟩ = some (.bool (sn (a))) ∧ w'.cell? ⟨w.heap.size, 1, none⟩ = some (.slice A (ln (ab (a))) cA) ∧ w'.cell? ⟨w.heap.size + 1, 0, none⟩ = some (.bool (sn (b))) ∧ w'.cell? ⟨w.heap.size + 1, 1, none⟩ = some (.slice B (ln (ab (b))) cB)) (first | with_reducible exact ⟨s0_0, s0_1, s1_0, s1_1⟩ | with_reducible exact ⟨(keeps (keeps s0_0 n0) n0), (keeps (keeps s0_1 n0) n0), (keeps (keeps s1_0 n1) n1), (keeps (keeps s1_1 n1) n1)⟩ | exact ⟨s0_0, s0_1, s1_0, s1_1⟩) (first
    | (go_at_call 107; refine (rintNeg_any b B cB _ (by exact hy)).mono ?_; rintro e w1 ⟨A1, c1, rfl, h1, hb1⟩; have hb1 := undrew hb1; replace s0_0 := keepc hb1 s0_0 l0; replace s0_1 := keepc hb1 s0_1 l0; replace s1_0 := keepc hb1 s1_0 l1; replace s1_1 := keepc hb1 s1_1 l1; replace r0 := keepc hb1 r0 l2; replace f0 := keepf hb1 f0 l2; replace r1 := keepc hb1 r1 l2; replace f1 := keepf hb1 f1 l2; replace l0 := Nat.lt_of_lt_of_le l0 hb1.size; replace l1 := Nat.lt_of_lt_of_le l1 hb1.size; replace l2 := Nat.lt_of_lt_of_le l2 hb1.size; replace hx := hx.to hb1; replace hy := hy.to hb1; replace HW := Lib.hid (hstep HW hb1); clear hb1)
    | (go_at_call 101; refine (rplus_any a (-b) A A1 cA c1 _ (by exact hx) (by exact h1) hbx (by rw [ab_neg]; exact hby)).mono ?_; rintro e w2 ⟨A2, c2, rfl, h2, hb2⟩; replace s0_0 := keepc hb2 s0_0 l0; replace s0_1 := keepc hb2 s0_1 l0; replace s1_0 := keepc hb2 s1_0 l1; replace s1_1 := keepc hb2 s1_1 l1; replace r0 := keepc hb2 r0 l2; replace f0 := keepf hb2 f0 l2; replace r1 := keepc hb2 r1 l2; replace f1 := keepf hb2 f1 l2; replace l0 := Nat.lt_of_lt_of_le l0 hb2.size; replace l1 := Nat.lt_of_lt_of_le l1 hb2.size; replace l2 := Nat.lt_of_lt_of_le l2 hb2.size; replace hx := hx.to hb2; replace hy := hy.to hb2; replace h1 := h1.to hb2; replace HW := Lib.hid (hstep HW hb2); clear hb2))
  go_wp2_with fail
  exact bodyPost_ret (v := .agg #[.bool (sn (a + -b)), .slice A2 (ln (ab (a + -b))) c2]) (by simp [results, Tryz.results106, go_sem, r0, r1, f0, f1]) rfl (retWholeC_fin HW h2 (by omega) r0)
set_option maxHeartbeats 4000000 in
theorem rtimes_any (a b : Int) (A B : Option Addr) (cA cB : Nat) (w : World) (hx : Nat32 w A (ab a)) (hy : Nat32 w B (ab b)) (hbx : ln (ab a) ≤ 1099511627776) (hby : ln (ab b) ≤ 1099511627776) :
    Calls Tryz.prog 102 #[.agg #[.bool (sn (a)), .slice A (ln (ab (a))) cA], .agg #[.bool (sn (b)), .slice B (ln (ab (b))) cB]] w (RetWholeC w (a * b)) := by
  rw [← times_val]
  go_enter Tryz.func102, Tryz.ntmps102
  go_wp2_with fail
  obtain ⟨W, hW⟩ : ∃ W : World, W = (((w.alloc (.cells #[.bool (sn (a)), .slice A (ln (ab (a))) cA] 32)).alloc (.cells #[.bool (sn (b)), .slice B (ln (ab (b))) cB] 32)).alloc (.cells #[.bool false, .slice none 0 0] 32)) := ⟨_, rfl⟩
  have s0_0 : W.cell? ⟨w.heap.size, 0, none⟩ = some (.bool (sn (a))) := by subst hW; go_simp
  have s0_1 : W.cell? ⟨w.heap.size, 1, none⟩ = some (.slice A (ln (ab (a))) cA) := by subst hW; go_simp
  have s1_0 : W.cell? ⟨w.heap.size + 1, 0, none⟩ = some (.bool (sn (b))) := by subst hW; go_simp
  have s1_1 : W.cell? ⟨w.heap.size + 1, 1, none⟩ = some (.slice B (ln (ab (b))) cB) := by subst hW; go_simp
  have r0 : W.cell? ⟨w.heap.size + 1 + 1, 0, none⟩ = some (.bool false) := by subst hW; go_simp
  have f0 : W.frozen? ⟨w.heap.size + 1 + 1, 0, none⟩ = false := by subst hW; go_simp
  have r1 : W.cell? ⟨w.heap.size + 1 + 1, 1, none⟩ = some (.slice none 0 0) := by subst hW; go_simp
  have f1 : W.frozen? ⟨w.heap.size + 1 + 1, 1, none⟩ = false := by subst hW; go_simp
  have HW : Below w.heap.size w W := by subst hW; exact ((((Below.refl w.heap.size w).alloc (Nat.le_refl _) _).alloc (by simp) _).alloc (by simp; omega) _)
  have l0 : w.heap.size < W.heap.size := by subst hW; simp <;> omega
  have l1 : w.heap.size + 1 < W.heap.size := by subst hW; simp <;> omega
  have l2 : w.heap.size + 1 + 1 < W.heap.size := by subst hW; simp
  have n0 : w.heap.size ≠ w.heap.size + 1 + 1 := by omega
  have n1 : w.heap.size + 1 ≠ w.heap.size + 1 + 1 := by omega
  replace hx := hx.to HW
  replace hy := hy.to HW
  rw [← hW]
  clear hW
  replace HW := Lib.hid HW
  go_region_held3 (fun w' => w'.cell? ⟨w.heap.size, 0, none⟩ = some (.bool (sn (a))) ∧ w'.cell? ⟨w.heap.size, 1, none⟩ = some (.slice A (ln (ab (a))) cA) ∧ w'.cell? ⟨w.heap.size + 1, 0, none⟩ = some (.bool (sn (b))) ∧ w'.cell? ⟨w.heap.size + 1, 1, none⟩ = some (.slice B (ln (ab (b))) cB)) (first | with_reducible exact ⟨s0_0, s0_1, s1_0, s1_1⟩ | with_reducible exact ⟨(keeps (keeps s0_0 n0) n0), (keeps (keeps s0_1 n0) n0), (keeps (keeps s1_0 n1) n1), (keeps (keeps s1_1 n1) n1)⟩ | exact ⟨s0_0, s0_1, s1_0, s1_1⟩) (first
    | (go_at_call 103; refine (rnatMul_any (ab a) (ab b) A B cA cB _ (by exact hx) (by exact hy) (by omega) (by omega)).mono ?_; rintro e w1 ⟨A1, c1, rfl, h1, hb1⟩; have hb1 := undrew hb1; replace s0_0 := keepc hb1 s0_0 l0; replace s0_1 := keepc hb1 s0_1 l0; replace s1_0 := keepc hb1 s1_0 l1; replace s1_1 := keepc hb1 s1_1 l1; replace r0 := keepc hb1 r0 l2; replace f0 := keepf hb1 f0 l2; replace r1 := keepc hb1 r1 l2; replace f1 := keepf hb1 f1 l2; replace l0 := Nat.lt_of_lt_of_le l0 hb1.size; replace l1 := Nat.lt_of_lt_of_le l1 hb1.size; replace l2 := Nat.lt_of_lt_of_le l2 hb1.size; replace hx := hx.to hb1; replace hy := hy.to hb1; replace HW := Lib.hid (hstep HW hb1); clear hb1)
    | (go_at_call 117; refine (rsigned_any (sn a != sn b) (ab a * ab b) A1 c1 _ (by exact h1)).mono ?_; rintro e w2 ⟨A2, c2, rfl, h2, hb2⟩; replace s0_0 := keepc hb2 s0_0 l0; replace s0_1 := keepc hb2 s0_1 l0; replace s1_0 := keepc hb2 s1_0 l1; replace s1_1 := keepc hb2 s1_1 l1; replace r0 := keepc hb2 r0 l2; replace f0 := keepf hb2 f0 l2; replace r1 := keepc hb2 r1 l2; replace f1 := keepf hb2 f1 l2; replace l0 := Nat.lt_of_lt_of_le l0 hb2.size; replace l1 := Nat.lt_of_lt_of_le l1 hb2.size; replace l2 := Nat.lt_of_lt_of_le l2 hb2.size; replace hx := hx.to hb2; replace hy := hy.to hb2; replace h1 := h1.to hb2; replace HW := Lib.hid (hstep HW hb2); clear hb2))
  go_wp2_with fail
  exact bodyPost_ret (v := .agg #[.bool (sn (zi (sn a != sn b) (ab a * ab b))), .slice A2 (ln (ab (zi (sn a != sn b) (ab a * ab b)))) c2]) (by simp [results, Tryz.results102, go_sem, r0, r1, f0, f1]) rfl (retWholeC_fin HW h2 (by omega) r0)
end Go.Proofs.YtgpmlhpgdalheaaGreat

namespace Go.Proofs.YtgpmlhpgdalheaaGreat
open Go.RowKit Pl
set_option linter.unusedVariables false
set_option linter.unusedSimpArgs false
set_option maxHeartbeats 4000000 in
theorem rmul_any (x y : Cx) (A1 A2 A3 B1 B2 B3 : Option Addr) (cA1 cA2 cA3 cB1 cB2 cB3 : Nat) (w : World) (hx : Num3C w A1 A2 A3 x) (hy : Num3C w B1 B2 B3 y) (hsx : sz 137438953472 x) (hsy : sz 137438953472 y) :
    Calls Tryz.prog 31 #[.agg #[.bool (sn (na x)), .slice A1 (ln (ab (na x))) cA1, .bool (sn (nb x)), .slice A2 (ln (ab (nb x))) cA2, .slice A3 (ln (nd x)) cA3], .agg #[.bool (sn (na y)), .slice B1 (ln (ab (na y))) cB1, .bool (sn (nb y)), .slice B2 (ln (ab (nb y))) cB2, .slice B3 (ln (nd y)) cB3]] w (RetNumC w (x.mul y)) := by
  obtain ⟨hx1, hx2, hx3⟩ := hx
  obtain ⟨hy1, hy2, hy3⟩ := hy
  have HSX := Lib.hid hsx
  have HSY := Lib.hid hsy
  clear hsx hsy
  rw [← mul_fr]
  go_enter Tryz.func31, Tryz.ntmps31
  go_wp2_with fail
  obtain ⟨W, hW⟩ : ∃ W : World, W = (((w.alloc (.cells #[.bool (sn (na x)), .slice A1 (ln (ab (na x))) cA1, .bool (sn (nb x)), .slice A2 (ln (ab (nb x))) cA2, .slice A3 (ln (nd x)) cA3] 34)).alloc (.cells #[.bool (sn (na y)), .slice B1 (ln (ab (na y))) cB1, .bool (sn (nb y)), .slice B2 (ln (ab (nb y))) cB2, .slice B3 (ln (nd y)) cB3] 34)).alloc (.cells #[.bool false, .slice none 0 0, .bool false, .slice none 0 0, .slice none 0 0] 34)) := ⟨_, rfl⟩
  have s0_0 : W.cell? ⟨w.heap.size, 0, none⟩ = some (.bool (sn (na x))) := by subst hW; go_simp
  have s0_1 : W.cell? ⟨w.heap.size, 1, none⟩ = some (.slice A1 (ln (ab (na x))) cA1) := by subst hW; go_simp
  have s0_2 : W.cell? ⟨w.heap.size, 2, none⟩ = some (.bool (sn (nb x))) := by subst hW; go_simp
  have s0_3 : W.cell? ⟨w.heap.size, 3, none⟩ = some (.slice A2 (ln (ab (nb x))) cA2) := by subst hW; go_simp
  have s0_4 : W.cell? ⟨w.heap.size, 4, none⟩ = some (.slice A3 (ln (nd x)) cA3) := by subst hW; go_simp
  have s1_0 : W.cell? ⟨w.heap.size + 1, 0, none⟩ = some (.bool (sn (na y))) := by subst hW; go_simp
  have s1_1 : W.cell? ⟨w.heap.size + 1, 1, none⟩ = some (.slice B1 (ln (ab (na y))) cB1) := by subst hW; go_simp
  have s1_2 : W.cell? ⟨w.heap.size + 1, 2, none⟩ = some (.bool (sn (nb y))) := by subst hW; go_simp
  have s1_3 : W.cell? ⟨w.heap.size + 1, 3, none⟩ = some (.slice B2 (ln (ab (nb y))) cB2) := by subst hW; go_simp
  have s1_4 : W.cell? ⟨w.heap.size + 1, 4, none⟩ = some (.slice B3 (ln (nd y)) cB3) := by subst hW; go_simp
  have r0 : W.cell? ⟨w.heap.size + 1 + 1, 0, none⟩ = some (.bool false) := by subst hW; go_simp
  have f0 : W.frozen? ⟨w.heap.size + 1 + 1, 0, none⟩ = false := by subst hW; go_simp
  have r1 : W.cell? ⟨w.heap.size + 1 + 1, 1, none⟩ = some (.slice none 0 0) := by subst hW; go_simp
  have f1 : W.frozen? ⟨w.heap.size + 1 + 1, 1, none⟩ = false := by subst hW; go_simp
  have r2 : W.cell? ⟨w.heap.size + 1 + 1, 2, none⟩ = some (.bool false) := by subst hW; go_simp
  have f2 : W.frozen? ⟨w.heap.size + 1 + 1, 2, none⟩ = false := by subst hW; go_simp
  have r3 : W.cell? ⟨w.heap.size + 1 + 1, 3, none⟩ = some (.slice none 0 0) := by subst hW; go_simp
  have f3 : W.frozen? ⟨w.heap.size + 1 + 1, 3, none⟩ = false := by subst hW; go_simp
  have r4 : W.cell? ⟨w.heap.size + 1 + 1, 4, none⟩ = some (.slice none 0 0) := by subst hW; go_simp
  have f4 : W.frozen? ⟨w.heap.size + 1 + 1, 4, none⟩ = false := by subst hW; go_simp
  have HW : Below w.heap.size w W := by subst hW; exact ((((Below.refl w.heap.size w).alloc (Nat.le_refl _) _).alloc (by simp) _).alloc (by simp; omega) _)
  have l0 : w.heap.size < W.heap.size := by subst hW; simp <;> omega
  have l1 : w.heap.size + 1 < W.heap.size := by subst hW; simp <;> omega
  have l2 : w.heap.size + 1 + 1 < W.heap.size := by subst hW; simp
  have n0 : w.heap.size ≠ w.heap.size + 1 + 1 := by omega
  have n1 : w.heap.size + 1 ≠ w.heap.size + 1 + 1 := by omega
  replace hx1 := hx1.to HW
  replace hx2 := hx2.to HW
  replace hx3 := hx3.to HW
  replace hy1 := hy1.to HW
  replace hy2 := hy2.to HW
  replace hy3 := hy3.to HW
  rw [← hW]
  clear hW
  replace HW := Lib.hid HW
  go_region_held3 (fun w' => w'.cell? ⟨w.heap.size, 0, none⟩ = some (.bool (sn (na x))) ∧ w'.cell? ⟨w.heap.size, 1, none⟩ = some (.slice A1 (ln (ab (na x))) cA1) ∧ w'.cell? ⟨w.heap.size, 2, none⟩ = some (.bool (sn (nb x))) ∧ w'.cell? ⟨w.heap.size, 3, none⟩ = some (.slice A2 (ln (ab (nb x))) cA2) ∧ w'.cell? ⟨w.heap.size, 4, none⟩ = some (.slice A3 (ln (nd x)) cA3) ∧ w'.cell? ⟨w.heap.size + 1, 0, none⟩ = some (.bool (sn (na y))) ∧ w'.cell? ⟨w.heap.size + 1, 1, none⟩ = some (.slice B1 (ln (ab (na y))) cB1) ∧ w'.cell? ⟨w.heap.size + 1, 2, none⟩ = some (.bool (sn (nb y))) ∧ w'.cell? ⟨w.heap.size + 1, 3, none⟩ = some (.slice B2 (ln (ab (nb y))) cB2) ∧ w'.cell? ⟨w.heap.size + 1, 4, none⟩ = some (.slice B3 (ln (nd y)) cB3)) (first | with_reducible exact ⟨s0_0, s0_1, s0_2, s0_3, s0_4, s1_0, s1_1, s1_2, s1_3, s1_4⟩ | with_reducible exact ⟨(keeps (keeps (keeps (keeps (keeps s0_0 n0) n0) n0) n0) n0), (keeps (keeps (keeps (keeps (keeps s0_1 n0) n0) n0) n0) n0), (keeps (keeps (keeps (keeps (keeps s0_2 n0) n0) n0) n0) n0), (keeps (keeps (keeps (keeps (keeps s0_3 n0) n0) n0) n0) n0), (keeps (keeps (keeps (keeps (keeps s0_4 n0) n0) n0) n0) n0), (keeps (keeps (keeps (keeps (keeps s1_0 n1) n1) n1) n1) n1), (keeps (keeps (keeps (keeps (keeps s1_1 n1) n1) n1) n1) n1), (keeps (keeps (keeps (keeps (keeps s1_2 n1) n1) n1) n1) n1), (keeps (keeps (keeps (keeps (keeps s1_3 n1) n1) n1) n1) n1), (keeps (keeps (keeps (keeps (keeps s1_4 n1) n1) n1) n1) n1)⟩ | exact ⟨s0_0, s0_1, s0_2, s0_3, s0_4, s1_0, s1_1, s1_2, s1_3, s1_4⟩) (first
    | (have _ := mk6; go_at_call 100; refine (rmake_any (na x * na y - nb x * nb y) (na x * nb y + nb x * na y) (nd x * nd y) S3 S6 S7 d3 d6 d7 _ (by exact h3) (by exact h6) (by exact h7) (by rw [Int.sub_eq_add_neg]; have h := (ab_add_ln (K := 274877906944) (Nat.le_trans (ab_mul_ln HSX.out.1 HSY.out.1) (by omega)) (b := -(nb x * nb y)) (by rw [ab_neg]; exact Nat.le_trans (ab_mul_ln HSX.out.2.1 HSY.out.2.1) (by omega))); have h3 := HSX.out; have h4 := HSY.out; unfold sz at h3 h4; omega) (by have h := (ab_add_ln (K := 274877906944) (Nat.le_trans (ab_mul_ln HSX.out.1 HSY.out.2.1) (by omega)) (Nat.le_trans (ab_mul_ln HSX.out.2.1 HSY.out.1) (by omega))); have h3 := HSX.out; have h4 := HSY.out; unfold sz at h3 h4; omega) (by have h := (nat_mul_ln HSX.out.2.2 HSY.out.2.2); have h3 := HSX.out; have h4 := HSY.out; unfold sz at h3 h4; omega) (Nat.mul_ne_zero (nd_ne0 x) (nd_ne0 y))).mono ?_; rintro e w8 ⟨Z1, Z2, Z3, cZ1, cZ2, cZ3, rfl, h8, hb8⟩; replace s0_0 := keepc hb8 s0_0 l0; replace s0_1 := keepc hb8 s0_1 l0; replace s0_2 := keepc hb8 s0_2 l0; replace s0_3 := keepc hb8 s0_3 l0; replace s0_4 := keepc hb8 s0_4 l0; replace s1_0 := keepc hb8 s1_0 l1; replace s1_1 := keepc hb8 s1_1 l1; replace s1_2 := keepc hb8 s1_2 l1; replace s1_3 := keepc hb8 s1_3 l1; replace s1_4 := keepc hb8 s1_4 l1; replace r0 := keepc hb8 r0 l2; replace f0 := keepf hb8 f0 l2; replace r1 := keepc hb8 r1 l2; replace f1 := keepf hb8 f1 l2; replace r2 := keepc hb8 r2 l2; replace f2 := keepf hb8 f2 l2; replace r3 := keepc hb8 r3 l2; replace f3 := keepf hb8 f3 l2; replace r4 := keepc hb8 r4 l2; replace f4 := keepf hb8 f4 l2; replace l0 := Nat.lt_of_lt_of_le l0 hb8.size; replace l1 := Nat.lt_of_lt_of_le l1 hb8.size; replace l2 := Nat.lt_of_lt_of_le l2 hb8.size; replace hx1 := hx1.to hb8; replace hx2 := hx2.to hb8; replace hx3 := hx3.to hb8; replace hy1 := hy1.to hb8; replace hy2 := hy2.to hb8; replace hy3 := hy3.to hb8; replace h1 := h1.to hb8; replace h2 := h2.to hb8; replace h3 := h3.to hb8; replace h4 := h4.to hb8; replace h5 := h5.to hb8; replace h6 := h6.to hb8; replace h7 := h7.to hb8; replace HW := Lib.hid (hstep HW hb8); clear hb8; have mk7 : True := trivial)
    | (have _ := mk5; go_at_call 103; refine (rnatMul_any (nd x) (nd y) A3 B3 cA3 cB3 _ (by exact hx3) (by exact hy3) (by have := HSX.out; unfold sz at this; omega) (by have := HSY.out; unfold sz at this; omega)).mono ?_; rintro e w7 ⟨S7, d7, rfl, h7, hb7⟩; replace s0_0 := keepc hb7 s0_0 l0; replace s0_1 := keepc hb7 s0_1 l0; replace s0_2 := keepc hb7 s0_2 l0; replace s0_3 := keepc hb7 s0_3 l0; replace s0_4 := keepc hb7 s0_4 l0; replace s1_0 := keepc hb7 s1_0 l1; replace s1_1 := keepc hb7 s1_1 l1; replace s1_2 := keepc hb7 s1_2 l1; replace s1_3 := keepc hb7 s1_3 l1; replace s1_4 := keepc hb7 s1_4 l1; replace r0 := keepc hb7 r0 l2; replace f0 := keepf hb7 f0 l2; replace r1 := keepc hb7 r1 l2; replace f1 := keepf hb7 f1 l2; replace r2 := keepc hb7 r2 l2; replace f2 := keepf hb7 f2 l2; replace r3 := keepc hb7 r3 l2; replace f3 := keepf hb7 f3 l2; replace r4 := keepc hb7 r4 l2; replace f4 := keepf hb7 f4 l2; replace l0 := Nat.lt_of_lt_of_le l0 hb7.size; replace l1 := Nat.lt_of_lt_of_le l1 hb7.size; replace l2 := Nat.lt_of_lt_of_le l2 hb7.size; replace hx1 := hx1.to hb7; replace hx2 := hx2.to hb7; replace hx3 := hx3.to hb7; replace hy1 := hy1.to hb7; replace hy2 := hy2.to hb7; replace hy3 := hy3.to hb7; replace h1 := h1.to hb7; replace h2 := h2.to hb7; replace h3 := h3.to hb7; replace h4 := h4.to hb7; replace h5 := h5.to hb7; replace h6 := h6.to hb7; replace HW := Lib.hid (hstep HW hb7); clear hb7; have mk6 : True := trivial)
    | (have _ := mk4; go_at_call 101; refine (rplus_any (na x * nb y) (nb x * na y) S4 S5 d4 d5 _ (by exact h4) (by exact h5) (by have h := (ab_mul_ln HSX.out.1 HSY.out.2.1); have h3 := HSX.out; have h4 := HSY.out; unfold sz at h3 h4; omega) (by have h := (ab_mul_ln HSX.out.2.1 HSY.out.1); have h3 := HSX.out; have h4 := HSY.out; unfold sz at h3 h4; omega)).mono ?_; rintro e w6 ⟨S6, d6, rfl, h6, hb6⟩; replace s0_0 := keepc hb6 s0_0 l0; replace s0_1 := keepc hb6 s0_1 l0; replace s0_2 := keepc hb6 s0_2 l0; replace s0_3 := keepc hb6 s0_3 l0; replace s0_4 := keepc hb6 s0_4 l0; replace s1_0 := keepc hb6 s1_0 l1; replace s1_1 := keepc hb6 s1_1 l1; replace s1_2 := keepc hb6 s1_2 l1; replace s1_3 := keepc hb6 s1_3 l1; replace s1_4 := keepc hb6 s1_4 l1; replace r0 := keepc hb6 r0 l2; replace f0 := keepf hb6 f0 l2; replace r1 := keepc hb6 r1 l2; replace f1 := keepf hb6 f1 l2; replace r2 := keepc hb6 r2 l2; replace f2 := keepf hb6 f2 l2; replace r3 := keepc hb6 r3 l2; replace f3 := keepf hb6 f3 l2; replace r4 := keepc hb6 r4 l2; replace f4 := keepf hb6 f4 l2; replace l0 := Nat.lt_of_lt_of_le l0 hb6.size; replace l1 := Nat.lt_of_lt_of_le l1 hb6.size; replace l2 := Nat.lt_of_lt_of_le l2 hb6.size; replace hx1 := hx1.to hb6; replace hx2 := hx2.to hb6; replace hx3 := hx3.to hb6; replace hy1 := hy1.to hb6; replace hy2 := hy2.to hb6; replace hy3 := hy3.to hb6; replace h1 := h1.to hb6; replace h2 := h2.to hb6; replace h3 := h3.to hb6; replace h4 := h4.to hb6; replace h5 := h5.to hb6; replace HW := Lib.hid (hstep HW hb6); clear hb6; have mk5 : True := trivial)
    | (have _ := mk3; go_at_call 102; refine (rtimes_any (nb x) (na y) A2 B1 cA2 cB1 _ (by exact hx2) (by exact hy1) (by have := HSX.out; unfold sz at this; omega) (by have := HSY.out; unfold sz at this; omega)).mono ?_; rintro e w5 ⟨S5, d5, rfl, h5, hb5⟩; replace s0_0 := keepc hb5 s0_0 l0; replace s0_1 := keepc hb5 s0_1 l0; replace s0_2 := keepc hb5 s0_2 l0; replace s0_3 := keepc hb5 s0_3 l0; replace s0_4 := keepc hb5 s0_4 l0; replace s1_0 := keepc hb5 s1_0 l1; replace s1_1 := keepc hb5 s1_1 l1; replace s1_2 := keepc hb5 s1_2 l1; replace s1_3 := keepc hb5 s1_3 l1; replace s1_4 := keepc hb5 s1_4 l1; replace r0 := keepc hb5 r0 l2; replace f0 := keepf hb5 f0 l2; replace r1 := keepc hb5 r1 l2; replace f1 := keepf hb5 f1 l2; replace r2 := keepc hb5 r2 l2; replace f2 := keepf hb5 f2 l2; replace r3 := keepc hb5 r3 l2; replace f3 := keepf hb5 f3 l2; replace r4 := keepc hb5 r4 l2; replace f4 := keepf hb5 f4 l2; replace l0 := Nat.lt_of_lt_of_le l0 hb5.size; replace l1 := Nat.lt_of_lt_of_le l1 hb5.size; replace l2 := Nat.lt_of_lt_of_le l2 hb5.size; replace hx1 := hx1.to hb5; replace hx2 := hx2.to hb5; replace hx3 := hx3.to hb5; replace hy1 := hy1.to hb5; replace hy2 := hy2.to hb5; replace hy3 := hy3.to hb5; replace h1 := h1.to hb5; replace h2 := h2.to hb5; replace h3 := h3.to hb5; replace h4 := h4.to hb5; replace HW := Lib.hid (hstep HW hb5); clear hb5; have mk4 : True := trivial)
    | (have _ := mk2; go_at_call 102; refine (rtimes_any (na x) (nb y) A1 B2 cA1 cB2 _ (by exact hx1) (by exact hy2) (by have := HSX.out; unfold sz at this; omega) (by have := HSY.out; unfold sz at this; omega)).mono ?_; rintro e w4 ⟨S4, d4, rfl, h4, hb4⟩; replace s0_0 := keepc hb4 s0_0 l0; replace s0_1 := keepc hb4 s0_1 l0; replace s0_2 := keepc hb4 s0_2 l0; replace s0_3 := keepc hb4 s0_3 l0; replace s0_4 := keepc hb4 s0_4 l0; replace s1_0 := keepc hb4 s1_0 l1; replace s1_1 := keepc hb4 s1_1 l1; replace s1_2 := keepc hb4 s1_2 l1; replace s1_3 := keepc hb4 s1_3 l1; replace s1_4 := keepc hb4 s1_4 l1; replace r0 := keepc hb4 r0 l2; replace f0 := keepf hb4 f0 l2; replace r1 := keepc hb4 r1 l2; replace f1 := keepf hb4 f1 l2; replace r2 := keepc hb4 r2 l2; replace f2 := keepf hb4 f2 l2; replace r3 := keepc hb4 r3 l2; replace f3 := keepf hb4 f3 l2; replace r4 := keepc hb4 r4 l2; replace f4 := keepf hb4 f4 l2; replace l0 := Nat.lt_of_lt_of_le l0 hb4.size; replace l1 := Nat.lt_of_lt_of_le l1 hb4.size; replace l2 := Nat.lt_of_lt_of_le l2 hb4.size; replace hx1 := hx1.to hb4; replace hx2 := hx2.to hb4; replace hx3 := hx3.to hb4; replace hy1 := hy1.to hb4; replace hy2 := hy2.to hb4; replace hy3 := hy3.to hb4; replace h1 := h1.to hb4; replace h2 := h2.to hb4; replace h3 := h3.to hb4; replace HW := Lib.hid (hstep HW hb4); clear hb4; have mk3 : True := trivial)
    | (have _ := mk1; go_at_call 106; refine (rsub_any (na x * na y) (nb x * nb y) S1 S2 d1 d2 _ (by exact h1) (by exact h2) (by have h := (ab_mul_ln HSX.out.1 HSY.out.1); have h3 := HSX.out; have h4 := HSY.out; unfold sz at h3 h4; omega) (by have h := (ab_mul_ln HSX.out.2.1 HSY.out.2.1); have h3 := HSX.out; have h4 := HSY.out; unfold sz at h3 h4; omega)).mono ?_; rintro e w3 ⟨S3, d3, rfl, h3, hb3⟩; replace s0_0 := keepc hb3 s0_0 l0; replace s0_1 := keepc hb3 s0_1 l0; replace s0_2 := keepc hb3 s0_2 l0; replace s0_3 := keepc hb3 s0_3 l0; replace s0_4 := keepc hb3 s0_4 l0; replace s1_0 := keepc hb3 s1_0 l1; replace s1_1 := keepc hb3 s1_1 l1; replace s1_2 := keepc hb3 s1_2 l1; replace s1_3 := keepc hb3 s1_3 l1; replace s1_4 := keepc hb3 s1_4 l1; replace r0 := keepc hb3 r0 l2; replace f0 := keepf hb3 f0 l2; replace r1 := keepc hb3 r1 l2; replace f1 := keepf hb3 f1 l2; replace r2 := keepc hb3 r2 l2; replace f2 := keepf hb3 f2 l2; replace r3 := keepc hb3 r3 l2; replace f3 := keepf hb3 f3 l2; replace r4 := keepc hb3 r4 l2; replace f4 := keepf hb3 f4 l2; replace l0 := Nat.lt_of_lt_of_le l0 hb3.size; replace l1 := Nat.lt_of_lt_of_le l1 hb3.size; replace l2 := Nat.lt_of_lt_of_le l2 hb3.size; replace hx1 := hx1.to hb3; replace hx2 := hx2.to hb3; replace hx3 := hx3.to hb3; replace hy1 := hy1.to hb3; replace hy2 := hy2.to hb3; replace hy3 := hy3.to hb3; replace h1 := h1.to hb3; replace h2 := h2.to hb3; replace HW := Lib.hid (hstep HW hb3); clear hb3; have mk2 : True := trivial)
    | (have _ := mk0; go_at_call 102; refine (rtimes_any (nb x) (nb y) A2 B2 cA2 cB2 _ (by exact hx2) (by exact hy2) (by have := HSX.out; unfold sz at this; omega) (by have := HSY.out; unfold sz at this; omega)).mono ?_; rintro e w2 ⟨S2, d2, rfl, h2, hb2⟩; replace s0_0 := keepc hb2 s0_0 l0; replace s0_1 := keepc hb2 s0_1 l0; replace s0_2 := keepc hb2 s0_2 l0; replace s0_3 := keepc hb2 s0_3 l0; replace s0_4 := keepc hb2 s0_4 l0; replace s1_0 := keepc hb2 s1_0 l1; replace s1_1 := keepc hb2 s1_1 l1; replace s1_2 := keepc hb2 s1_2 l1; replace s1_3 := keepc hb2 s1_3 l1; replace s1_4 := keepc hb2 s1_4 l1; replace r0 := keepc hb2 r0 l2; replace f0 := keepf hb2 f0 l2; replace r1 := keepc hb2 r1 l2; replace f1 := keepf hb2 f1 l2; replace r2 := keepc hb2 r2 l2; replace f2 := keepf hb2 f2 l2; replace r3 := keepc hb2 r3 l2; replace f3 := keepf hb2 f3 l2; replace r4 := keepc hb2 r4 l2; replace f4 := keepf hb2 f4 l2; replace l0 := Nat.lt_of_lt_of_le l0 hb2.size; replace l1 := Nat.lt_of_lt_of_le l1 hb2.size; replace l2 := Nat.lt_of_lt_of_le l2 hb2.size; replace hx1 := hx1.to hb2; replace hx2 := hx2.to hb2; replace hx3 := hx3.to hb2; replace hy1 := hy1.to hb2; replace hy2 := hy2.to hb2; replace hy3 := hy3.to hb2; replace h1 := h1.to hb2; replace HW := Lib.hid (hstep HW hb2); clear hb2; have mk1 : True := trivial)
    | (go_at_call 102; refine (rtimes_any (na x) (na y) A1 B1 cA1 cB1 _ (by exact hx1) (by exact hy1) (by have := HSX.out; unfold sz at this; omega) (by have := HSY.out; unfold sz at this; omega)).mono ?_; rintro e w1 ⟨S1, d1, rfl, h1, hb1⟩; have hb1 := undrew hb1; replace s0_0 := keepc hb1 s0_0 l0; replace s0_1 := keepc hb1 s0_1 l0; replace s0_2 := keepc hb1 s0_2 l0; replace s0_3 := keepc hb1 s0_3 l0; replace s0_4 := keepc hb1 s0_4 l0; replace s1_0 := keepc hb1 s1_0 l1; replace s1_1 := keepc hb1 s1_1 l1; replace s1_2 := keepc hb1 s1_2 l1; replace s1_3 := keepc hb1 s1_3 l1; replace s1_4 := keepc hb1 s1_4 l1; replace r0 := keepc hb1 r0 l2; replace f0 := keepf hb1 f0 l2; replace r1 := keepc hb1 r1 l2; replace f1 := keepf hb1 f1 l2; replace r2 := keepc hb1 r2 l2; replace f2 := keepf hb1 f2 l2; replace r3 := keepc hb1 r3 l2; replace f3 := keepf hb1 f3 l2; replace r4 := keepc hb1 r4 l2; replace f4 := keepf hb1 f4 l2; replace l0 := Nat.lt_of_lt_of_le l0 hb1.size; replace l1 := Nat.lt_of_lt_of_le l1 hb1.size; replace l2 := Nat.lt_of_lt_of_le l2 hb1.size; replace hx1 := hx1.to hb1; replace hx2 := hx2.to hb1; replace hx3 := hx3.to hb1; replace hy1 := hy1.to hb1; replace hy2 := hy2.to hb1; replace hy3 := hy3.to hb1; replace HW := Lib.hid (hstep HW hb1); clear hb1; have mk0 : True := trivial))
  go_wp2_with fail
  exact bodyPost_ret (v := .agg #[.bool (sn (na (fr (na x * na y - nb x * nb y) (na x * nb y + nb x * na y) (nd x * nd y)))), .slice Z1 (ln (ab (na (fr (na x * na y - nb x * nb y) (na x * nb y + nb x * na y) (nd x * nd y))))) cZ1, .bool (sn (nb (fr (na x * na y - nb x * nb y) (na x * nb y + nb x * na y) (nd x * nd y)))), .slice Z2 (ln (ab (nb (fr (na x * na y - nb x * nb y) (na x * nb y + nb x * na y) (nd x * nd y))))) cZ2, .slice Z3 (ln (nd (fr (na x * na y - nb x * nb y) (na x * nb y + nb x * na y) (nd x * nd y)))) cZ3]) (by simp [results, Tryz.results31, go_sem, r0, r1, r2, r3, r4, f0, f1, f2, f3, f4]) rfl (retNumC_fin HW h8 (by omega) r0)
end Go.Proofs.YtgpmlhpgdalheaaGreat

namespace Go.Proofs.YtgpmlhpgdalheaaGreat
open Go.RowKit Pl
set_option linter.unusedVariables false
set_option linter.unusedSimpArgs false
/-- Two local integers that are not negative. -/
def TwoInt (W : World) (A B : Option Addr) (n m c d : Nat) (p q : Value) (wx : World) : Prop := ∃ g h, p = .pointer (some ⟨g, 0, none⟩) ∧ q = .pointer (some ⟨h, 0, none⟩) ∧
  (wx.cell? ⟨g, 0, none⟩ = some (.bool false) ∧ wx.cell? ⟨g, 1, none⟩ = some (.slice A n c)) ∧ (wx.cell? ⟨h, 0, none⟩ = some (.bool false) ∧ wx.cell? ⟨h, 1, none⟩ = some (.slice B m d)) ∧
  (W.heap.size ≤ g ∧ g < wx.heap.size) ∧ (W.heap.size ≤ h ∧ h < wx.heap.size) ∧ Below W.heap.size W wx
theorem twoInt_a (W : World) (A B : Option Addr) (n m c d : Nat) (T : TypeId) : TwoInt W A B n m c d (.pointer (some ⟨W.heap.size, 0, none⟩)) (.pointer (some ⟨W.heap.size + 1, 0, none⟩)) ((W.alloc (.cells #[.bool false, .slice A n c] T)).alloc (.cells #[.bool false, .slice B m d] T)).drew :=
  ⟨_, _, rfl, rfl, ⟨by go_simp, by go_simp⟩, ⟨by go_simp, by go_simp⟩, ⟨by omega, by show _ < ((W.alloc _).alloc _).heap.size; simp <;> omega⟩, ⟨by omega, by show _ < ((W.alloc _).alloc _).heap.size; simp <;> omega⟩, below_drewN (((Below.refl _ _).alloc (Nat.le_refl _) _).alloc (by simp) _) 1⟩
theorem twoInt_b (W : World) (A B : Option Addr) (n m c d : Nat) (T : TypeId) : TwoInt W A B n m c d (.pointer (some ⟨W.heap.size + 1, 0, none⟩)) (.pointer (some ⟨W.heap.size, 0, none⟩)) ((W.alloc (.cells #[.bool false, .slice B m d] T)).alloc (.cells #[.bool false, .slice A n c] T)).drew :=
  ⟨_, _, rfl, rfl, ⟨by go_simp, by go_simp⟩, ⟨by go_simp, by go_simp⟩, ⟨by omega, by show _ < ((W.alloc _).alloc _).heap.size; simp <;> omega⟩, ⟨by omega, by show _ < ((W.alloc _).alloc _).heap.size; simp <;> omega⟩, below_drewN (((Below.refl _ _).alloc (Nat.le_refl _) _).alloc (by simp) _) 1⟩
theorem rtimes_n (a : Int) (n : Nat) (A B : Option Addr) (cA cB : Nat) (w : World) (hx : Nat32 w A (ab a)) (hy : Nat32 w B n) (hbx : ln (ab a) ≤ 1099511627776) (hby : ln n ≤ 1099511627776) :
    Calls Tryz.prog 102 #[.agg #[.bool (sn a), .slice A (ln (ab a)) cA], .agg #[.bool false, .slice B (ln n) cB]] w (RetWholeC w (a * (n : Int))) := by
  have e : ab (n : Int) = n := by unfold ab; omega
  have e2 : sn (n : Int) = false := by unfold sn; rw [decide_eq_false_iff_not]; omega
  have h := rtimes_any a (n : Int) A B cA cB w hx (by rw [e]; exact hy) hbx (by rw [e]; exact hby)
  rwa [e, e2] at h
theorem ab_muln_ln {a : Int} {n K L : Nat} (ha : ln (ab a) ≤ K) (hn : ln n ≤ L) : ln (ab (a * (n : Int))) ≤ K + L := ab_mul_ln ha (b := (n : Int)) (by rw [show ab (n : Int) = n by unfold ab; omega]; exact hn)
set_option maxHeartbeats 4000000 in
theorem radd_any (x y : Cx) (A1 A2 A3 B1 B2 B3 : Option Addr) (cA1 cA2 cA3 cB1 cB2 cB3 : Nat) (w : World) (hx : Num3C w A1 A2 A3 x) (hy : Num3C w B1 B2 B3 y) (hsx : sz 137438953472 x) (hsy : sz 137438953472 y) :
    Calls Tryz.prog 27 #[.agg #[.bool (sn (na x)), .slice A1 (ln (ab (na x))) cA1, .bool (sn (nb x)), .slice A2 (ln (ab (nb x))) cA2, .slice A3 (ln (nd x)) cA3], .agg #[.bool (sn (na y)), .slice B1 (ln (ab (na y))) cB1, .bool (sn (nb y)), .slice B2 (ln (ab (nb y))) cB2, .slice B3 (ln (nd y)) cB3]] w (RetNumC w (x.add y)) := by
  obtain ⟨hx1, hx2, hx3⟩ := hx
  obtain ⟨hy1, hy2, hy3⟩ := hy
  have HSX := Lib.hid hsx
  have HSY := Lib.hid hsy
  clear hsx hsy
  rw [← add_fr]
  go_enter Tryz.func27, Tryz.ntmps27
  go_wp2_with fail
  obtain ⟨W, hW⟩ : ∃ W : World, W = (((w.alloc (.cells #[.bool (sn (na x)), .slice A1 (ln (ab (na x))) cA1, .bool (sn (nb x)), .slice A2 (ln (ab (nb x))) cA2, .slice A3 (ln (nd x)) cA3] 34)).alloc (.cells #[.bool (sn (na y)), .slice B1 (ln (ab (na y))) cB1, .bool (sn (nb y)), .slice B2 (ln (ab (nb y))) cB2, .slice B3 (ln (nd y)) cB3] 34)).alloc (.cells #[.bool false, .slice none 0 0, .bool false, .slice none 0 0, .slice none 0 0] 34)) := ⟨_, rfl⟩
  have s0_0 : W.cell? ⟨w.heap.size, 0, none⟩ = some (.bool (sn (na x))) := by subst hW; go_simp
  have s0_1 : W.cell? ⟨w.heap.size, 1, none⟩ = some (.slice A1 (ln (ab (na x))) cA1) := by subst hW; go_simp
  have s0_2 : W.cell? ⟨w.heap.size, 2, none⟩ = some (.bool (sn (nb x))) := by subst hW; go_simp
  have s0_3 : W.cell? ⟨w.heap.size, 3, none⟩ = some (.slice A2 (ln (ab (nb x))) cA2) := by subst hW; go_simp
  have s0_4 : W.cell? ⟨w.heap.size, 4, none⟩ = some (.slice A3 (ln (nd x)) cA3) := by subst hW; go_simp
  have s1_0 : W.cell? ⟨w.heap.size + 1, 0, none⟩ = some (.bool (sn (na y))) := by subst hW; go_simp
  have s1_1 : W.cell? ⟨w.heap.size + 1, 1, none⟩ = some (.slice B1 (ln (ab (na y))) cB1) := by subst hW; go_simp
  have s1_2 : W.cell? ⟨w.heap.size + 1, 2, none⟩ = some (.bool (sn (nb y))) := by subst hW; go_simp
  have s1_3 : W.cell? ⟨w.heap.size + 1, 3, none⟩ = some (.slice B2 (ln (ab (nb y))) cB2) := by subst hW; go_simp
  have s1_4 : W.cell? ⟨w.heap.size + 1, 4, none⟩ = some (.slice B3 (ln (nd y)) cB3) := by subst hW; go_simp
  have r0 : W.cell? ⟨w.heap.size + 1 + 1, 0, none⟩ = some (.bool false) := by subst hW; go_simp
  have f0 : W.frozen? ⟨w.heap.size + 1 + 1, 0, none⟩ = false := by subst hW; go_simp
  have r1 : W.cell? ⟨w.heap.size + 1 + 1, 1, none⟩ = some (.slice none 0 0) := by subst hW; go_simp
  have f1 : W.frozen? ⟨w.heap.size + 1 + 1, 1, none⟩ = false := by subst hW; go_simp
  have r2 : W.cell? ⟨w.heap.size + 1 + 1, 2, none⟩ = some (.bool false) := by subst hW; go_simp
  have f2 : W.frozen? ⟨w.heap.size + 1 + 1, 2, none⟩ = false := by subst hW; go_simp
  have r3 : W.cell? ⟨w.heap.size + 1 + 1, 3, none⟩ = some (.slice none 0 0) := by subst hW; go_simp
  have f3 : W.frozen? ⟨w.heap.size + 1 + 1, 3, none⟩ = false := by subst hW; go_simp
  have r4 : W.cell? ⟨w.heap.size + 1 + 1, 4, none⟩ = some (.slice none 0 0) := by subst hW; go_simp
  have f4 : W.frozen? ⟨w.heap.size + 1 + 1, 4, none⟩ = false := by subst hW; go_simp
  have HW : Below w.heap.size w W := by subst hW; exact ((((Below.refl w.heap.size w).alloc (Nat.le_refl _) _).alloc (by simp) _).alloc (by simp; omega) _)
  have l0 : w.heap.size < W.heap.size := by subst hW; simp <;> omega
  have l1 : w.heap.size + 1 < W.heap.size := by subst hW; simp <;> omega
  have l2 : w.heap.size + 1 + 1 < W.heap.size := by subst hW; simp
  have n0 : w.heap.size ≠ w.heap.size + 1 + 1 := by omega
  have n1 : w.heap.size + 1 ≠ w.heap.size + 1 + 1 := by omega
  replace hx1 := hx1.to HW
  replace hx2 := hx2.to HW
  replace hx3 := hx3.to HW
  replace hy1 := hy1.to HW
  replace hy2 := hy2.to HW
  replace hy3 := hy3.to HW
  rw [← hW]
  clear hW
  replace HW := Lib.hid HW
  go_upto_region 1 with fail
  go_cut [5, 6] (fun p q wx => TwoInt W A3 B3 (ln (nd x)) (ln (nd y)) cA3 cB3 p q wx)
  case first =>
    go_region
    all_goals (go_wp2_with fail; go_meet; first | exact twoInt_a _ _ _ _ _ _ _ _ | exact twoInt_b _ _ _ _ _ _ _ _)
  case rest =>
  obtain ⟨g0, g1, hp0, hp1, ⟨t0_0, t0_1⟩, ⟨t1_0, t1_1⟩, ⟨hg0, l100⟩, ⟨hg1, l101⟩, hb1⟩ := hcut
  subst hp0 hp1
  have n100 : g0 ≠ w.heap.size + 1 + 1 := by omega
  have n101 : g1 ≠ w.heap.size + 1 + 1 := by omega
  obtain ⟨w1, rfl⟩ : ∃ X : World, X = wc := ⟨_, rfl⟩
  replace s0_0 := keepc hb1 s0_0 l0
  replace s0_1 := keepc hb1 s0_1 l0
  replace s0_2 := keepc hb1 s0_2 l0
  replace s0_3 := keepc hb1 s0_3 l0
  replace s0_4 := keepc hb1 s0_4 l0
  replace s1_0 := keepc hb1 s1_0 l1
  replace s1_1 := keepc hb1 s1_1 l1
  replace s1_2 := keepc hb1 s1_2 l1
  replace s1_3 := keepc hb1 s1_3 l1
  replace s1_4 := keepc hb1 s1_4 l1
  replace r0 := keepc hb1 r0 l2
  replace f0 := keepf hb1 f0 l2
  replace r1 := keepc hb1 r1 l2
  replace f1 := keepf hb1 f1 l2
  replace r2 := keepc hb1 r2 l2
  replace f2 := keepf hb1 f2 l2
  replace r3 := keepc hb1 r3 l2
  replace f3 := keepf hb1 f3 l2
  replace r4 := keepc hb1 r4 l2
  replace f4 := keepf hb1 f4 l2
  replace l0 := Nat.lt_of_lt_of_le l0 hb1.size
  replace l1 := Nat.lt_of_lt_of_le l1 hb1.size
  replace l2 := Nat.lt_of_lt_of_le l2 hb1.size
  replace hx1 := hx1.to hb1
  replace hx2 := hx2.to hb1
  replace hx3 := hx3.to hb1
  replace hy1 := hy1.to hb1
  replace hy2 := hy2.to hb1
  replace hy3 := hy3.to hb1
  replace HW := Lib.hid (hstep HW hb1)
  clear hb1
  go_wp2_with fail
  go_region_held3 (fun w' => w'.cell? ⟨w.heap.size, 0, none⟩ = some (.bool (sn (na x))) ∧ w'.cell? ⟨w.heap.size, 1, none⟩ = some (.slice A1 (ln (ab (na x))) cA1) ∧ w'.cell? ⟨w.heap.size, 2, none⟩ = some (.bool (sn (nb x))) ∧ w'.cell? ⟨w.heap.size, 3, none⟩ = some (.slice A2 (ln (ab (nb x))) cA2) ∧ w'.cell? ⟨w.heap.size, 4, none⟩ = some (.slice A3 (ln (nd x)) cA3) ∧ w'.cell? ⟨w.heap.size + 1, 0, none⟩ = some (.bool (sn (na y))) ∧ w'.cell? ⟨w.heap.size + 1, 1, none⟩ = some (.slice B1 (ln (ab (na y))) cB1) ∧ w'.cell? ⟨w.heap.size + 1, 2, none⟩ = some (.bool (sn (nb y))) ∧ w'.cell? ⟨w.heap.size + 1, 3, none⟩ = some (.slice B2 (ln (ab (nb y))) cB2) ∧ w'.cell? ⟨w.heap.size + 1, 4, none⟩ = some (.slice B3 (ln (nd y)) cB3) ∧ w'.cell? ⟨g0, 0, none⟩ = some (.bool false) ∧ w'.cell? ⟨g0, 1, none⟩ = some (.slice A3 (ln (nd x)) cA3) ∧ w'.cell? ⟨g1, 0, none⟩ = some (.bool false) ∧ w'.cell? ⟨g1, 1, none⟩ = some (.slice B3 (ln (nd y)) cB3)) (first | with_reducible exact ⟨s0_0, s0_1, s0_2, s0_3, s0_4, s1_0, s1_1, s1_2, s1_3, s1_4, t0_0, t0_1, t1_0, t1_1⟩ | with_reducible exact ⟨(keeps (keeps (keeps (keeps (keeps s0_0 n0) n0) n0) n0) n0), (keeps (keeps (keeps (keeps (keeps s0_1 n0) n0) n0) n0) n0), (keeps (keeps (keeps (keeps (keeps s0_2 n0) n0) n0) n0) n0), (keeps (keeps (keeps (keeps (keeps s0_3 n0) n0) n0) n0) n0), (keeps (keeps (keeps (keeps (keeps s0_4 n0) n0) n0) n0) n0), (keeps (keeps (keeps (keeps (keeps s1_0 n1) n1) n1) n1) n1), (keeps (keeps (keeps (keeps (keeps s1_1 n1) n1) n1) n1) n1), (keeps (keeps (keeps (keeps (keeps s1_2 n1) n1) n1) n1) n1), (keeps (keeps (keeps (keeps (keeps s1_3 n1) n1) n1) n1) n1), (keeps (keeps (keeps (keeps (keeps s1_4 n1) n1) n1) n1) n1), (keeps (keeps (keeps (keeps (keeps t0_0 n100) n100) n100) n100) n100), (keeps (keeps (keeps (keeps (keeps t0_1 n100) n100) n100) n100) n100), (keeps (keeps (keeps (keeps (keeps t1_0 n101) n101) n101) n101) n101), (keeps (keeps (keeps (keeps (keeps t1_1 n101) n101) n101) n101) n101)⟩ | exact ⟨s0_0, s0_1, s0_2, s0_3, s0_4, s1_0, s1_1, s1_2, s1_3, s1_4, t0_0, t0_1, t1_0, t1_1⟩) (first
    | (have _ := mk6; go_at_call 100; refine (rmake_any (na x * (nd y : Int) + na y * (nd x : Int)) (nb x * (nd y : Int) + nb y * (nd x : Int)) (nd x * nd y) S3 S6 S7 d3 d6 d7 _ (by exact h3) (by exact h6) (by exact h7) (by have h := (ab_add_ln (K := 274877906944) (Nat.le_trans (ab_muln_ln HSX.out.1 HSY.out.2.2) (by omega)) (Nat.le_trans (ab_muln_ln HSY.out.1 HSX.out.2.2) (by omega))); have h3 := HSX.out; have h4 := HSY.out; unfold sz at h3 h4; omega) (by have h := (ab_add_ln (K := 274877906944) (Nat.le_trans (ab_muln_ln HSX.out.2.1 HSY.out.2.2) (by omega)) (Nat.le_trans (ab_muln_ln HSY.out.2.1 HSX.out.2.2) (by omega))); have h3 := HSX.out; have h4 := HSY.out; unfold sz at h3 h4; omega) (by have h := (nat_mul_ln HSX.out.2.2 HSY.out.2.2); have h3 := HSX.out; have h4 := HSY.out; unfold sz at h3 h4; omega) (Nat.mul_ne_zero (nd_ne0 x) (nd_ne0 y))).mono ?_; rintro e w9 ⟨Z1, Z2, Z3, cZ1, cZ2, cZ3, rfl, h8, hb9⟩; replace s0_0 := keepc hb9 s0_0 l0; replace s0_1 := keepc hb9 s0_1 l0; replace s0_2 := keepc hb9 s0_2 l0; replace s0_3 := keepc hb9 s0_3 l0; replace s0_4 := keepc hb9 s0_4 l0; replace s1_0 := keepc hb9 s1_0 l1; replace s1_1 := keepc hb9 s1_1 l1; replace s1_2 := keepc hb9 s1_2 l1; replace s1_3 := keepc hb9 s1_3 l1; replace s1_4 := keepc hb9 s1_4 l1; replace t0_0 := keepc hb9 t0_0 l100; replace t0_1 := keepc hb9 t0_1 l100; replace t1_0 := keepc hb9 t1_0 l101; replace t1_1 := keepc hb9 t1_1 l101; replace r0 := keepc hb9 r0 l2; replace f0 := keepf hb9 f0 l2; replace r1 := keepc hb9 r1 l2; replace f1 := keepf hb9 f1 l2; replace r2 := keepc hb9 r2 l2; replace f2 := keepf hb9 f2 l2; replace r3 := keepc hb9 r3 l2; replace f3 := keepf hb9 f3 l2; replace r4 := keepc hb9 r4 l2; replace f4 := keepf hb9 f4 l2; replace l0 := Nat.lt_of_lt_of_le l0 hb9.size; replace l1 := Nat.lt_of_lt_of_le l1 hb9.size; replace l2 := Nat.lt_of_lt_of_le l2 hb9.size; replace l100 := Nat.lt_of_lt_of_le l100 hb9.size; replace l101 := Nat.lt_of_lt_of_le l101 hb9.size; replace hx1 := hx1.to hb9; replace hx2 := hx2.to hb9; replace hx3 := hx3.to hb9; replace hy1 := hy1.to hb9; replace hy2 := hy2.to hb9; replace hy3 := hy3.to hb9; replace h1 := h1.to hb9; replace h2 := h2.to hb9; replace h3 := h3.to hb9; replace h4 := h4.to hb9; replace h5 := h5.to hb9; replace h6 := h6.to hb9; replace h7 := h7.to hb9; replace HW := Lib.hid (hstep HW hb9); clear hb9; have mk7 : True := trivial)
    | (have _ := mk5; go_at_call 103; refine (rnatMul_any (nd x) (nd y) A3 B3 cA3 cB3 _ (by exact hx3) (by exact hy3) (by have := HSX.out; unfold sz at this; omega) (by have := HSY.out; unfold sz at this; omega)).mono ?_; rintro e w8 ⟨S7, d7, rfl, h7, hb8⟩; replace s0_0 := keepc hb8 s0_0 l0; replace s0_1 := keepc hb8 s0_1 l0; replace s0_2 := keepc hb8 s0_2 l0; replace s0_3 := keepc hb8 s0_3 l0; replace s0_4 := keepc hb8 s0_4 l0; replace s1_0 := keepc hb8 s1_0 l1; replace s1_1 := keepc hb8 s1_1 l1; replace s1_2 := keepc hb8 s1_2 l1; replace s1_3 := keepc hb8 s1_3 l1; replace s1_4 := keepc hb8 s1_4 l1; replace t0_0 := keepc hb8 t0_0 l100; replace t0_1 := keepc hb8 t0_1 l100; replace t1_0 := keepc hb8 t1_0 l101; replace t1_1 := keepc hb8 t1_1 l101; replace r0 := keepc hb8 r0 l2; replace f0 := keepf hb8 f0 l2; replace r1 := keepc hb8 r1 l2; replace f1 := keepf hb8 f1 l2; replace r2 := keepc hb8 r2 l2; replace f2 := keepf hb8 f2 l2; replace r3 := keepc hb8 r3 l2; replace f3 := keepf hb8 f3 l2; replace r4 := keepc hb8 r4 l2; replace f4 := keepf hb8 f4 l2; replace l0 := Nat.lt_of_lt_of_le l0 hb8.size; replace l1 := Nat.lt_of_lt_of_le l1 hb8.size; replace l2 := Nat.lt_of_lt_of_le l2 hb8.size; replace l100 := Nat.lt_of_lt_of_le l100 hb8.size; replace l101 := Nat.lt_of_lt_of_le l101 hb8.size; replace hx1 := hx1.to hb8; replace hx2 := hx2.to hb8; replace hx3 := hx3.to hb8; replace hy1 := hy1.to hb8; replace hy2 := hy2.to hb8; replace hy3 := hy3.to hb8; replace h1 := h1.to hb8; replace h2 := h2.to hb8; replace h3 := h3.to hb8; replace h4 := h4.to hb8; replace h5 := h5.to hb8; replace h6 := h6.to hb8; replace HW := Lib.hid (hstep HW hb8); clear hb8; have mk6 : True := trivial)
    | (have _ := mk4; go_at_call 101; refine (rplus_any (nb x * (nd y : Int)) (nb y * (nd x : Int)) S4 S5 d4 d5 _ (by exact h4) (by exact h5) (by have h := ((ab_muln_ln HSX.out.2.1 HSY.out.2.2)); have h3 := HSX.out; have h4 := HSY.out; unfold sz at h3 h4; omega) (by have h := ((ab_muln_ln HSY.out.2.1 HSX.out.2.2)); have h3 := HSX.out; have h4 := HSY.out; unfold sz at h3 h4; omega)).mono ?_; rintro e w7 ⟨S6, d6, rfl, h6, hb7⟩; replace s0_0 := keepc hb7 s0_0 l0; replace s0_1 := keepc hb7 s0_1 l0; replace s0_2 := keepc hb7 s0_2 l0; replace s0_3 := keepc hb7 s0_3 l0; replace s0_4 := keepc hb7 s0_4 l0; replace s1_0 := keepc hb7 s1_0 l1; replace s1_1 := keepc hb7 s1_1 l1; replace s1_2 := keepc hb7 s1_2 l1; replace s1_3 := keepc hb7 s1_3 l1; replace s1_4 := keepc hb7 s1_4 l1; replace t0_0 := keepc hb7 t0_0 l100; replace t0_1 := keepc hb7 t0_1 l100; replace t1_0 := keepc hb7 t1_0 l101; replace t1_1 := keepc hb7 t1_1 l101; replace r0 := keepc hb7 r0 l2; replace f0 := keepf hb7 f0 l2; replace r1 := keepc hb7 r1 l2; replace f1 := keepf hb7 f1 l2; replace r2 := keepc hb7 r2 l2; replace f2 := keepf hb7 f2 l2; replace r3 := keepc hb7 r3 l2; replace f3 := keepf hb7 f3 l2; replace r4 := keepc hb7 r4 l2; replace f4 := keepf hb7 f4 l2; replace l0 := Nat.lt_of_lt_of_le l0 hb7.size; replace l1 := Nat.lt_of_lt_of_le l1 hb7.size; replace l2 := Nat.lt_of_lt_of_le l2 hb7.size; replace l100 := Nat.lt_of_lt_of_le l100 hb7.size; replace l101 := Nat.lt_of_lt_of_le l101 hb7.size; replace hx1 := hx1.to hb7; replace hx2 := hx2.to hb7; replace hx3 := hx3.to hb7; replace hy1 := hy1.to hb7; replace hy2 := hy2.to hb7; replace hy3 := hy3.to hb7; replace h1 := h1.to hb7; replace h2 := h2.to hb7; replace h3 := h3.to hb7; replace h4 := h4.to hb7; replace h5 := h5.to hb7; replace HW := Lib.hid (hstep HW hb7); clear hb7; have mk5 : True := trivial)
    | (have _ := mk3; go_at_call 102; refine (rtimes_n (nb y) (nd x) B2 A3 cB2 cA3 _ (by exact hy2) (by exact hx3) (by have := HSY.out; unfold sz at this; omega) (by have := HSX.out; unfold sz at this; omega)).mono ?_; rintro e w6 ⟨S5, d5, rfl, h5, hb6⟩; replace s0_0 := keepc hb6 s0_0 l0; replace s0_1 := keepc hb6 s0_1 l0; replace s0_2 := keepc hb6 s0_2 l0; replace s0_3 := keepc hb6 s0_3 l0; replace s0_4 := keepc hb6 s0_4 l0; replace s1_0 := keepc hb6 s1_0 l1; replace s1_1 := keepc hb6 s1_1 l1; replace s1_2 := keepc hb6 s1_2 l1; replace s1_3 := keepc hb6 s1_3 l1; replace s1_4 := keepc hb6 s1_4 l1; replace t0_0 := keepc hb6 t0_0 l100; replace t0_1 := keepc hb6 t0_1 l100; replace t1_0 := keepc hb6 t1_0 l101; replace t1_1 := keepc hb6 t1_1 l101; replace r0 := keepc hb6 r0 l2; replace f0 := keepf hb6 f0 l2; replace r1 := keepc hb6 r1 l2; replace f1 := keepf hb6 f1 l2; replace r2 := keepc hb6 r2 l2; replace f2 := keepf hb6 f2 l2; replace r3 := keepc hb6 r3 l2; replace f3 := keepf hb6 f3 l2; replace r4 := keepc hb6 r4 l2; replace f4 := keepf hb6 f4 l2; replace l0 := Nat.lt_of_lt_of_le l0 hb6.size; replace l1 := Nat.lt_of_lt_of_le l1 hb6.size; replace l2 := Nat.lt_of_lt_of_le l2 hb6.size; replace l100 := Nat.lt_of_lt_of_le l100 hb6.size; replace l101 := Nat.lt_of_lt_of_le l101 hb6.size; replace hx1 := hx1.to hb6; replace hx2 := hx2.to hb6; replace hx3 := hx3.to hb6; replace hy1 := hy1.to hb6; replace hy2 := hy2.to hb6; replace hy3 := hy3.to hb6; replace h1 := h1.to hb6; replace h2 := h2.to hb6; replace h3 := h3.to hb6; replace h4 := h4.to hb6; replace HW := Lib.hid (hstep HW hb6); clear hb6; have mk4 : True := trivial)
    | (have _ := mk2; go_at_call 102; refine (rtimes_n (nb x) (nd y) A2 B3 cA2 cB3 _ (by exact hx2) (by exact hy3) (by have := HSX.out; unfold sz at this; omega) (by have := HSY.out; unfold sz at this; omega)).mono ?_; rintro e w5 ⟨S4, d4, rfl, h4, hb5⟩; replace s0_0 := keepc hb5 s0_0 l0; replace s0_1 := keepc hb5 s0_1 l0; replace s0_2 := keepc hb5 s0_2 l0; replace s0_3 := keepc hb5 s0_3 l0; replace s0_4 := keepc hb5 s0_4 l0; replace s1_0 := keepc hb5 s1_0 l1; replace s1_1 := keepc hb5 s1_1 l1; replace s1_2 := keepc hb5 s1_2 l1; replace s1_3 := keepc hb5 s1_3 l1; replace s1_4 := keepc hb5 s1_4 l1; replace t0_0 := keepc hb5 t0_0 l100; replace t0_1 := keepc hb5 t0_1 l100; replace t1_0 := keepc hb5 t1_0 l101; replace t1_1 := keepc hb5 t1_1 l101; replace r0 := keepc hb5 r0 l2; replace f0 := keepf hb5 f0 l2; replace r1 := keepc hb5 r1 l2; replace f1 := keepf hb5 f1 l2; replace r2 := keepc hb5 r2 l2; replace f2 := keepf hb5 f2 l2; replace r3 := keepc hb5 r3 l2; replace f3 := keepf hb5 f3 l2; replace r4 := keepc hb5 r4 l2; replace f4 := keepf hb5 f4 l2; replace l0 := Nat.lt_of_lt_of_le l0 hb5.size; replace l1 := Nat.lt_of_lt_of_le l1 hb5.size; replace l2 := Nat.lt_of_lt_of_le l2 hb5.size; replace l100 := Nat.lt_of_lt_of_le l100 hb5.size; replace l101 := Nat.lt_of_lt_of_le l101 hb5.size; replace hx1 := hx1.to hb5; replace hx2 := hx2.to hb5; replace hx3 := hx3.to hb5; replace hy1 := hy1.to hb5; replace hy2 := hy2.to hb5; replace hy3 := hy3.to hb5; replace h1 := h1.to hb5; replace h2 := h2.to hb5; replace h3 := h3.to hb5; replace HW := Lib.hid (hstep HW hb5); clear hb5; have mk3 : True := trivial)
    | (have _ := mk1; go_at_call 101; refine (rplus_any (na x * (nd y : Int)) (na y * (nd x : Int)) S1 S2 d1 d2 _ (by exact h1) (by exact h2) (by have h := ((ab_muln_ln HSX.out.1 HSY.out.2.2)); have h3 := HSX.out; have h4 := HSY.out; unfold sz at h3 h4; omega) (by have h := ((ab_muln_ln HSY.out.1 HSX.out.2.2)); have h3 := HSX.out; have h4 := HSY.out; unfold sz at h3 h4; omega)).mono ?_; rintro e w4 ⟨S3, d3, rfl, h3, hb4⟩; replace s0_0 := keepc hb4 s0_0 l0; replace s0_1 := keepc hb4 s0_1 l0; replace s0_2 := keepc hb4 s0_2 l0; replace s0_3 := keepc hb4 s0_3 l0; replace s0_4 := keepc hb4 s0_4 l0; replace s1_0 := keepc hb4 s1_0 l1; replace s1_1 := keepc hb4 s1_1 l1; replace s1_2 := keepc hb4 s1_2 l1; replace s1_3 := keepc hb4 s1_3 l1; replace s1_4 := keepc hb4 s1_4 l1; replace t0_0 := keepc hb4 t0_0 l100; replace t0_1 := keepc hb4 t0_1 l100; replace t1_0 := keepc hb4 t1_0 l101; replace t1_1 := keepc hb4 t1_1 l101; replace r0 := keepc hb4 r0 l2; replace f0 := keepf hb4 f0 l2; replace r1 := keepc hb4 r1 l2; replace f1 := keepf hb4 f1 l2; replace r2 := keepc hb4 r2 l2; replace f2 := keepf hb4 f2 l2; replace r3 := keepc hb4 r3 l2; replace f3 := keepf hb4 f3 l2; replace r4 := keepc hb4 r4 l2; replace f4 := keepf hb4 f4 l2; replace l0 := Nat.lt_of_lt_of_le l0 hb4.size; replace l1 := Nat.lt_of_lt_of_le l1 hb4.size; replace l2 := Nat.lt_of_lt_of_le l2 hb4.size; replace l100 := Nat.lt_of_lt_of_le l100 hb4.size; replace l101 := Nat.lt_of_lt_of_le l101 hb4.size; replace hx1 := hx1.to hb4; replace hx2 := hx2.to hb4; replace hx3 := hx3.to hb4; replace hy1 := hy1.to hb4; replace hy2 := hy2.to hb4; replace hy3 := hy3.to hb4; replace h1 := h1.to hb4; replace h2 := h2.to hb4; replace HW := Lib.hid (hstep HW hb4); clear hb4; have mk2 : True := trivial)
    | (have _ := mk0; go_at_call 102; refine (rtimes_n (na y) (nd x) B1 A3 cB1 cA3 _ (by exact hy1) (by exact hx3) (by have := HSY.out; unfold sz at this; omega) (by have := HSX.out; unfold sz at this; omega)).mono ?_; rintro e w3 ⟨S2, d2, rfl, h2, hb3⟩; replace s0_0 := keepc hb3 s0_0 l0; replace s0_1 := keepc hb3 s0_1 l0; replace s0_2 := keepc hb3 s0_2 l0; replace s0_3 := keepc hb3 s0_3 l0; replace s0_4 := keepc hb3 s0_4 l0; replace s1_0 := keepc hb3 s1_0 l1; replace s1_1 := keepc hb3 s1_1 l1; replace s1_2 := keepc hb3 s1_2 l1; replace s1_3 := keepc hb3 s1_3 l1; replace s1_4 := keepc hb3 s1_4 l1; replace t0_0 := keepc hb3 t0_0 l100; replace t0_1 := keepc hb3 t0_1 l100; replace t1_0 := keepc hb3 t1_0 l101; replace t1_1 := keepc hb3 t1_1 l101; replace r0 := keepc hb3 r0 l2; replace f0 := keepf hb3 f0 l2; replace r1 := keepc hb3 r1 l2; replace f1 := keepf hb3 f1 l2; replace r2 := keepc hb3 r2 l2; replace f2 := keepf hb3 f2 l2; replace r3 := keepc hb3 r3 l2; replace f3 := keepf hb3 f3 l2; replace r4 := keepc hb3 r4 l2; replace f4 := keepf hb3 f4 l2; replace l0 := Nat.lt_of_lt_of_le l0 hb3.size; replace l1 := Nat.lt_of_lt_of_le l1 hb3.size; replace l2 := Nat.lt_of_lt_of_le l2 hb3.size; replace l100 := Nat.lt_of_lt_of_le l100 hb3.size; replace l101 := Nat.lt_of_lt_of_le l101 hb3.size; replace hx1 := hx1.to hb3; replace hx2 := hx2.to hb3; replace hx3 := hx3.to hb3; replace hy1 := hy1.to hb3; replace hy2 := hy2.to hb3; replace hy3 := hy3.to hb3; replace h1 := h1.to hb3; replace HW := Lib.hid (hstep HW hb3); clear hb3; have mk1 : True := trivial)
    | (go_at_call 102; refine (rtimes_n (na x) (nd y) A1 B3 cA1 cB3 _ (by exact hx1) (by exact hy3) (by have := HSX.out; unfold sz at this; omega) (by have := HSY.out; unfold sz at this; omega)).mono ?_; rintro e w2 ⟨S1, d1, rfl, h1, hb2⟩; have hb2 := undrew hb2; replace s0_0 := keepc hb2 s0_0 l0; replace s0_1 := keepc hb2 s0_1 l0; replace s0_2 := keepc hb2 s0_2 l0; replace s0_3 := keepc hb2 s0_3 l0; replace s0_4 := keepc hb2 s0_4 l0; replace s1_0 := keepc hb2 s1_0 l1; replace s1_1 := keepc hb2 s1_1 l1; replace s1_2 := keepc hb2 s1_2 l1; replace s1_3 := keepc hb2 s1_3 l1; replace s1_4 := keepc hb2 s1_4 l1; replace t0_0 := keepc hb2 t0_0 l100; replace t0_1 := keepc hb2 t0_1 l100; replace t1_0 := keepc hb2 t1_0 l101; replace t1_1 := keepc hb2 t1_1 l101; replace r0 := keepc hb2 r0 l2; replace f0 := keepf hb2 f0 l2; replace r1 := keepc hb2 r1 l2; replace f1 := keepf hb2 f1 l2; replace r2 := keepc hb2 r2 l2; replace f2 := keepf hb2 f2 l2; replace r3 := keepc hb2 r3 l2; replace f3 := keepf hb2 f3 l2; replace r4 := keepc hb2 r4 l2; replace f4 := keepf hb2 f4 l2; replace l0 := Nat.lt_of_lt_of_le l0 hb2.size; replace l1 := Nat.lt_of_lt_of_le l1 hb2.size; replace l2 := Nat.lt_of_lt_of_le l2 hb2.size; replace l100 := Nat.lt_of_lt_of_le l100 hb2.size; replace l101 := Nat.lt_of_lt_of_le l101 hb2.size; replace hx1 := hx1.to hb2; replace hx2 := hx2.to hb2; replace hx3 := hx3.to hb2; replace hy1 := hy1.to hb2; replace hy2 := hy2.to hb2; replace hy3 := hy3.to hb2; replace HW := Lib.hid (hstep HW hb2); clear hb2; have mk0 : True := trivial))
  go_wp2_with fail
  exact bodyPost_ret (v := .agg #[.bool (sn (na (fr (na x * (nd y : Int) + na y * (nd x : Int)) (nb x * (nd y : Int) + nb y * (nd x : Int)) (nd x * nd y)))), .slice Z1 (ln (ab (na (fr (na x * (nd y : Int) + na y * (nd x : Int)) (nb x * (nd y : Int) + nb y * (nd x : Int)) (nd x * nd y))))) cZ1, .bool (sn (nb (fr (na x * (nd y : Int) + na y * (nd x : Int)) (nb x * (nd y : Int) + nb y * (nd x : Int)) (nd x * nd y)))), .slice Z2 (ln (ab (nb (fr (na x * (nd y : Int) + na y * (nd x : Int)) (nb x * (nd y : Int) + nb y * (nd x : Int)) (nd x * nd y))))) cZ2, .slice Z3 (ln (nd (fr (na x * (nd y : Int) + na y * (nd x : Int)) (nb x * (nd y : Int) + nb y * (nd x : Int)) (nd x * nd y)))) cZ3]) (by simp [results, Tryz.results27, go_sem, r0, r1, r2, r3, r4, f0, f1, f2, f3, f4]) rfl (retNumC_fin HW h8 (by omega) r0)
theorem rmake_re (z : Int) (d : Nat) (A D : Option Addr) (cA cD : Nat) (w : World) (hx : Nat32 w A (ab z)) (hd : Nat32 w D d) (hbx : ln (ab z) ≤ 1099511627776) (hbd : ln d ≤ 1099511627776) (hd0 : d ≠ 0) :
    Calls Tryz.prog 100 #[.agg #[.bool (sn z), .slice A (ln (ab z)) cA], .agg #[.bool false, .slice none 0 0], .slice D (ln d) cD] w (RetNumC w (fr z 0 d)) := by
  have h := rmake_any z 0 d A none D cA 0 cD w hx (Nat32.zero _ _) hd hbx (by show ln 0 ≤ _; rw [ln_zero]; omega) hbd hd0
  rw [show ab 0 = 0 from rfl, ln_zero, show sn 0 = false from rfl] at h
  exact h
end Go.Proofs.YtgpmlhpgdalheaaGreat

namespace Go.Proofs.YtgpmlhpgdalheaaGreat
open Go.RowKit Pl
set_option linter.unusedVariables false
set_option linter.unusedSimpArgs false
theorem Num3C.mk' {w : World} {A1 A2 A3 : Option Addr} {q : Cx} (h1 : Nat32 w A1 (ab (na q))) (h2 : Nat32 w A2 (ab (nb q))) (h3 : Nat32 w A3 (nd q)) : Num3C w A1 A2 A3 q := ⟨h1, h2, h3⟩
theorem Num3C.as {w : World} {A1 A2 A3 : Option Addr} {q : Cx} {a b : Int} {d : Nat} (h : na q = a ∧ nb q = b ∧ nd q = d) (h1 : Nat32 w A1 (ab a)) (h2 : Nat32 w A2 (ab b)) (h3 : Nat32 w A3 d) : Num3C w A1 A2 A3 q := by
  obtain ⟨rfl, rfl, rfl⟩ := h; exact ⟨h1, h2, h3⟩
theorem rintNeg_z {z y : Int} (hz : y = -z) (A : Option Addr) (cA : Nat) (w : World) (hx : Nat32 w A (ab z)) :
    Calls Tryz.prog 107 #[.agg #[.bool (sn z), .slice A (ln (ab z)) cA]] w (RetWholeC w y) := by rw [hz]; exact rintNeg_any z A cA w hx
theorem num3C_alloc {w : World} {A1 A2 A3 : Option Addr} {q : Cx} {o : Obj} (h : Num3C w A1 A2 A3 q) : Num3C (w.alloc o) A1 A2 A3 q := ⟨h.1.alloc _, h.2.1.alloc _, h.2.2.alloc _⟩
theorem norm_conj (x : Cx) : x.mul x.conj = x.norm := by
  apply Cx.ext' <;> simp only [Cx.mul, Cx.conj, Cx.norm, Cx.nrm] <;> grind
theorem sq_nonneg (a : Rat) : 0 ≤ a * a := by
  rcases Rat.le_total (a := 0) (b := a) with h | h
  · exact Rat.mul_nonneg h h
  · have h2 : (0 : Rat) ≤ -a := by grind
    have := Rat.mul_nonneg h2 h2
    grind
theorem rdivn_ne (x : Cx) {y : Cx} (h0 : y ≠ Cx.zero) : nd (x.mul y.conj) * ab (na y.norm) ≠ 0 := by
  refine Nat.mul_ne_zero (nd_ne0 _) (fun h => ?_)
  have h1 : na y.norm = 0 := by unfold ab at h; omega
  have h2 := na_eq y.norm
  rw [h1] at h2
  have h3 := rat_ne (nd_pos y.norm)
  have h4 : Cx.nrm y = 0 := by
    have : y.norm.re = 0 := by grind
    exact this
  have hn := ab_norm y
  rw [h4] at hn
  exact norm_ne h0 (by
    have : ((ab (na y * na y + nb y * nb y) : Nat) : Rat) = 0 := by rw [hn]; grind
    exact_mod_cast this)
theorem rdiv_fr (x : Cx) {y : Cx} (h0 : y ≠ Cx.zero) : fr (na (x.mul y.conj) * (nd y.norm : Int)) (nb (x.mul y.conj) * (nd y.norm : Int)) (nd (x.mul y.conj) * ab (na y.norm)) = x.div y := by
  have hne := rdivn_ne x h0
  have h1 : (ab (na y.norm) : Rat) = Cx.nrm y * (nd y.norm : Rat) := by
    have hp : 0 ≤ na y.norm := by
      have h2 := na_eq y.norm
      have h3 : (0 : Rat) ≤ Cx.nrm y := by
        unfold Cx.nrm
        have s1 : (0 : Rat) ≤ y.re * y.re := sq_nonneg _
        have s2 : (0 : Rat) ≤ y.im * y.im := sq_nonneg _
        grind
      have h4 : (0 : Rat) ≤ (na y.norm : Rat) := by
        rw [h2]; exact Rat.mul_nonneg h3 (by exact_mod_cast Nat.zero_le _)
      exact_mod_cast h4
    have e : ((ab (na y.norm) : Nat) : Int) = na y.norm := by unfold ab; omega
    rw [← Rat.intCast_natCast, e, na_eq]; rfl
  have hz : (ab (na y.norm) : Rat) ≠ 0 := fun h => by
    have : ab (na y.norm) = 0 := by exact_mod_cast h
    rw [this] at hne; simp at hne
  have hr : Cx.nrm y ≠ 0 := fun h => hz (by rw [h1, h]; grind)
  have k1 := na_eq (x.mul y.conj)
  have k2 := nb_eq (x.mul y.conj)
  refine fr_eq (Nat.pos_of_ne_zero hne) ?_ ?_
  · rw [Rat.intCast_mul, k1, Rat.natCast_mul, h1, Rat.intCast_natCast]; simp only [Cx.div, Cx.mul, Cx.conj]; grind
  · rw [Rat.intCast_mul, k2, Rat.natCast_mul, h1, Rat.intCast_natCast]; simp only [Cx.div, Cx.mul, Cx.conj]; grind
/-- A local variable that holds a number of the reference. -/
def VarNumC (W : World) (q : Cx) (p : Value) (wx : World) : Prop := ∃ g A1 A2 A3 k1 k2 k3, p = .pointer (some ⟨g, 0, none⟩) ∧ (wx.cell? ⟨g, 0, none⟩ = some (.bool (sn (na q))) ∧ wx.cell? ⟨g, 1, none⟩ = some (.slice A1 (ln (ab (na q))) k1) ∧ wx.cell? ⟨g, 2, none⟩ = some (.bool (sn (nb q))) ∧ wx.cell? ⟨g, 3, none⟩ = some (.slice A2 (ln (ab (nb q))) k2) ∧ wx.cell? ⟨g, 4, none⟩ = some (.slice A3 (ln (nd q)) k3)) ∧ Num3C wx A1 A2 A3 q ∧ W.heap.size ≤ g ∧ g < wx.heap.size ∧ Below W.heap.size W wx
theorem varNumC_set {W wn : World} {q : Cx} {g B k1 k2 k3 : Nat} {A1 A2 A3 : Option Addr} (K : Below W.heap.size W wn) (n : NewVarN B g wn) (hg : W.heap.size ≤ g) (h : Num3C wn A1 A2 A3 q) :
    VarNumC W q (.pointer (some ⟨g, 0, none⟩)) (((((wn.setCell ⟨g, 0, none⟩ (.bool (sn (na q)))).setCell ⟨g, 1, none⟩ (.slice A1 (ln (ab (na q))) k1)).setCell ⟨g, 2, none⟩ (.bool (sn (nb q)))).setCell ⟨g, 3, none⟩ (.slice A2 (ln (ab (nb q))) k2)).setCell ⟨g, 4, none⟩ (.slice A3 (ln (nd q)) k3)) := by
  obtain ⟨_, hl, ⟨c0, c1, c2, c3, c4⟩, _⟩ := n
  obtain ⟨D1, D2, D3, j1, j2, j3, e, h3, hb⟩ := retNumC_fin (q := q) (A1 := A1) (A2 := A2) (A3 := A3) (d1 := k1) (d2 := k2) (d3 := k3) (Lib.hid K) h hg c0
  injection e with e
  simp only [Value.agg.injEq, Array.mk.injEq, List.cons.injEq, Value.slice.injEq, and_true, true_and] at e
  obtain ⟨⟨rfl, rfl⟩, ⟨rfl, rfl⟩, rfl, rfl⟩ := e
  have o0 := cell_self (u := .bool (sn (na q))) c0
  refine ⟨g, A1, A2, A3, k1, k2, k3, rfl, ⟨?_, ?_, ?_, ?_, ?_⟩, h3, hg, by simpa [World.setCell] using hl, hb⟩
  · exact keepo (keepo (keepo (keepo o0 (by omega)) (by omega)) (by omega)) (by omega)
  · exact keepo (keepo (keepo (cell_self (keepo c1 (by omega))) (by omega)) (by omega)) (by omega)
  · exact keepo (keepo (cell_self (keepo (keepo c2 (by omega)) (by omega))) (by omega)) (by omega)
  · exact keepo (cell_self (keepo (keepo (keepo c3 (by omega)) (by omega)) (by omega))) (by omega)
  · exact cell_self (keepo (keepo (keepo (keepo c4 (by omega)) (by omega)) (by omega)) (by omega))
theorem varNumC_new {W wn : World} {q : Cx} {k1 k2 k3 : Nat} {A1 A2 A3 : Option Addr} {T : TypeId} (K : Below W.heap.size W wn) (h : Num3C wn A1 A2 A3 q) :
    VarNumC W q (.pointer (some ⟨wn.heap.size, 0, none⟩)) (wn.alloc (.cells #[.bool (sn (na q)), .slice A1 (ln (ab (na q))) k1, .bool (sn (nb q)), .slice A2 (ln (ab (nb q))) k2, .slice A3 (ln (nd q)) k3] T)) :=
  ⟨wn.heap.size, A1, A2, A3, k1, k2, k3, rfl, ⟨by go_simp, by go_simp, by go_simp, by go_simp, by go_simp⟩, ⟨h.1.alloc _, h.2.1.alloc _, h.2.2.alloc _⟩, K.size, by simp, K.alloc K.size _⟩
set_option maxHeartbeats 4000000 in
theorem rneg_num (x : Cx) (A1 A2 A3 : Option Addr) (cA1 cA2 cA3 : Nat) (w : World) (hx : Num3C w A1 A2 A3 x) :
    Calls Tryz.prog 35 #[.agg #[.bool (sn (na x)), .slice A1 (ln (ab (na x))) cA1, .bool (sn (nb x)), .slice A2 (ln (ab (nb x))) cA2, .slice A3 (ln (nd x)) cA3]] w (RetNumC w x.neg) := by
  obtain ⟨hx1, hx2, hx3⟩ := hx
  obtain ⟨m1, m2, m3⟩ := neg_form x
  have M1 := Lib.hid m1
  have M2 := Lib.hid m2
  have M3 := Lib.hid m3
  clear m1 m2 m3
  go_enter Tryz.func35, Tryz.ntmps35
  go_wp2_with fail
  obtain ⟨W, hW⟩ : ∃ W : World, W = ((w.alloc (.cells #[.bool (sn (na x)), .slice A1 (ln (ab (na x))) cA1, .bool (sn (nb x)), .slice A2 (ln (ab (nb x))) cA2, .slice A3 (ln (nd x)) cA3] 34)).alloc (.cells #[.bool false, .slice none 0 0, .bool false, .slice none 0 0, .slice none 0 0] 34)) := ⟨_, rfl⟩
  have s0_0 : W.cell? ⟨w.heap.size, 0, none⟩ = some (.bool (sn (na x))) := by subst hW; go_simp
  have s0_1 : W.cell? ⟨w.heap.size, 1, none⟩ = some (.slice A1 (ln (ab (na x))) cA1) := by subst hW; go_simp
  have s0_2 : W.cell? ⟨w.heap.size, 2, none⟩ = some (.bool (sn (nb x))) := by subst hW; go_simp
  have s0_3 : W.cell? ⟨w.heap.size, 3, none⟩ = some (.slice A2 (ln (ab (nb x))) cA2) := by subst hW; go_simp
  have s0_4 : W.cell? ⟨w.heap.size, 4, none⟩ = some (.slice A3 (ln (nd x)) cA3) := by subst hW; go_simp
  have r0 : W.cell? ⟨w.heap.size + 1, 0, none⟩ = some (.bool false) := by subst hW; go_simp
  have f0 : W.frozen? ⟨w.heap.size + 1, 0, none⟩ = false := by subst hW; go_simp
  have r1 : W.cell? ⟨w.heap.size + 1, 1, none⟩ = some (.slice none 0 0) := by subst hW; go_simp
  have f1 : W.frozen? ⟨w.heap.size + 1, 1, none⟩ = false := by subst hW; go_simp
  have r2 : W.cell? ⟨w.heap.size + 1, 2, none⟩ = some (.bool false) := by subst hW; go_simp
  have f2 : W.frozen? ⟨w.heap.size + 1, 2, none⟩ = false := by subst hW; go_simp
  have r3 : W.cell? ⟨w.heap.size + 1, 3, none⟩ = some (.slice none 0 0) := by subst hW; go_simp
  have f3 : W.frozen? ⟨w.heap.size + 1, 3, none⟩ = false := by subst hW; go_simp
  have r4 : W.cell? ⟨w.heap.size + 1, 4, none⟩ = some (.slice none 0 0) := by subst hW; go_simp
  have f4 : W.frozen? ⟨w.heap.size + 1, 4, none⟩ = false := by subst hW; go_simp
  have HW : Below w.heap.size w W := by subst hW; exact (((Below.refl w.heap.size w).alloc (Nat.le_refl _) _).alloc (by simp) _)
  have l0 : w.heap.size < W.heap.size := by subst hW; simp <;> omega
  have l1 : w.heap.size + 1 < W.heap.size := by subst hW; simp
  have n0 : w.heap.size ≠ w.heap.size + 1 := by omega
  replace hx1 := hx1.to HW
  replace hx2 := hx2.to HW
  replace hx3 := hx3.to HW
  rw [← hW]
  clear hW
  replace HW := Lib.hid HW
  go_region_held3 (fun w' => w'.cell? ⟨w.heap.size, 0, none⟩ = some (.bool (sn (na x))) ∧ w'.cell? ⟨w.heap.size, 1, none⟩ = some (.slice A1 (ln (ab (na x))) cA1) ∧ w'.cell? ⟨w.heap.size, 2, none⟩ = some (.bool (sn (nb x))) ∧ w'.cell? ⟨w.heap.size, 3, none⟩ = some (.slice A2 (ln (ab (nb x))) cA2) ∧ w'.cell? ⟨w.heap.size, 4, none⟩ = some (.slice A3 (ln (nd x)) cA3)) (first | with_reducible exact ⟨s0_0, s0_1, s0_2, s0_3, s0_4⟩ | with_reducible exact ⟨(keeps (keeps (keeps (keeps (keeps s0_0 n0) n0) n0) n0) n0), (keeps (keeps (keeps (keeps (keeps s0_1 n0) n0) n0) n0) n0), (keeps (keeps (keeps (keeps (keeps s0_2 n0) n0) n0) n0) n0), (keeps (keeps (keeps (keeps (keeps s0_3 n0) n0) n0) n0) n0), (keeps (keeps (keeps (keeps (keeps s0_4 n0) n0) n0) n0) n0)⟩ | exact ⟨s0_0, s0_1, s0_2, s0_3, s0_4⟩) (first
    | (go_at_call_of 107 (Value.agg #[.bool (sn (na x)), .slice A1 (ln (ab (na x))) cA1]); refine (rintNeg_z M1.out A1 cA1 _ (by exact hx1)).mono ?_; rintro e w1 ⟨S1, d1, rfl, h1, hb1⟩; have hb1 := undrew hb1; replace s0_0 := keepc hb1 s0_0 l0; replace s0_1 := keepc hb1 s0_1 l0; replace s0_2 := keepc hb1 s0_2 l0; replace s0_3 := keepc hb1 s0_3 l0; replace s0_4 := keepc hb1 s0_4 l0; replace r0 := keepc hb1 r0 l1; replace f0 := keepf hb1 f0 l1; replace r1 := keepc hb1 r1 l1; replace f1 := keepf hb1 f1 l1; replace r2 := keepc hb1 r2 l1; replace f2 := keepf hb1 f2 l1; replace r3 := keepc hb1 r3 l1; replace f3 := keepf hb1 f3 l1; replace r4 := keepc hb1 r4 l1; replace f4 := keepf hb1 f4 l1; replace l0 := Nat.lt_of_lt_of_le l0 hb1.size; replace l1 := Nat.lt_of_lt_of_le l1 hb1.size; replace hx1 := hx1.to hb1; replace hx2 := hx2.to hb1; replace hx3 := hx3.to hb1; replace HW := Lib.hid (hstep HW hb1); clear hb1)
    | (go_at_call_of 107 (Value.agg #[.bool (sn (nb x)), .slice A2 (ln (ab (nb x))) cA2]); refine (rintNeg_z M2.out A2 cA2 _ (by exact hx2)).mono ?_; rintro e w2 ⟨S2, d2, rfl, h2, hb2⟩; replace s0_0 := keepc hb2 s0_0 l0; replace s0_1 := keepc hb2 s0_1 l0; replace s0_2 := keepc hb2 s0_2 l0; replace s0_3 := keepc hb2 s0_3 l0; replace s0_4 := keepc hb2 s0_4 l0; replace r0 := keepc hb2 r0 l1; replace f0 := keepf hb2 f0 l1; replace r1 := keepc hb2 r1 l1; replace f1 := keepf hb2 f1 l1; replace r2 := keepc hb2 r2 l1; replace f2 := keepf hb2 f2 l1; replace r3 := keepc hb2 r3 l1; replace f3 := keepf hb2 f3 l1; replace r4 := keepc hb2 r4 l1; replace f4 := keepf hb2 f4 l1; replace l0 := Nat.lt_of_lt_of_le l0 hb2.size; replace l1 := Nat.lt_of_lt_of_le l1 hb2.size; replace hx1 := hx1.to hb2; replace hx2 := hx2.to hb2; replace hx3 := hx3.to hb2; replace h1 := h1.to hb2; replace HW := Lib.hid (hstep HW hb2); clear hb2))
  go_wp2_with fail
  rw [← M3.out] at hx3 ⊢
  exact bodyPost_ret (v := .agg #[.bool (sn (na x.neg)), .slice S1 (ln (ab (na x.neg))) d1, .bool (sn (nb x.neg)), .slice S2 (ln (ab (nb x.neg))) d2, .slice A3 (ln (nd x.neg)) cA3]) (by simp [results, Tryz.results35, go_sem, r0, r1, r2, r3, r4, f0, f1, f2, f3, f4]) rfl (retNumC_fin HW (Num3C.mk' h1 h2 hx3) (by omega) r0)
set_option maxHeartbeats 4000000 in
theorem rconj_num (x : Cx) (A1 A2 A3 : Option Addr) (cA1 cA2 cA3 : Nat) (w : World) (hx : Num3C w A1 A2 A3 x) :
    Calls Tryz.prog 37 #[.agg #[.bool (sn (na x)), .slice A1 (ln (ab (na x))) cA1, .bool (sn (nb x)), .slice A2 (ln (ab (nb x))) cA2, .slice A3 (ln (nd x)) cA3]] w (RetNumC w x.conj) := by
  obtain ⟨hx1, hx2, hx3⟩ := hx
  obtain ⟨m1, m2, m3⟩ := conj_form x
  have M1 := Lib.hid m1
  have M2 := Lib.hid m2
  have M3 := Lib.hid m3
  clear m1 m2 m3
  go_enter Tryz.func37, Tryz.ntmps37
  go_wp2_with fail
  obtain ⟨W, hW⟩ : ∃ W : World, W = ((w.alloc (.cells #[.bool (sn (na x)), .slice A1 (ln (ab (na x))) cA1, .bool (sn (nb x)), .slice A2 (ln (ab (nb x))) cA2, .slice A3 (ln (nd x)) cA3] 34)).alloc (.cells #[.bool false, .slice none 0 0, .bool false, .slice none 0 0, .slice none 0 0] 34)) := ⟨_, rfl⟩
  have s0_0 : W.cell? ⟨w.heap.size, 0, none⟩ = some (.bool (sn (na x))) := by subst hW; go_simp
  have s0_1 : W.cell? ⟨w.heap.size, 1, none⟩ = some (.slice A1 (ln (ab (na x))) cA1) := by subst hW; go_simp
  have s0_2 : W.cell? ⟨w.heap.size, 2, none⟩ = some (.bool (sn (nb x))) := by subst hW; go_simp
  have s0_3 : W.cell? ⟨w.heap.size, 3, none⟩ = some (.slice A2 (ln (ab (nb x))) cA2) := by subst hW; go_simp
  have s0_4 : W.cell? ⟨w.heap.size, 4, none⟩ = some (.slice A3 (ln (nd x)) cA3) := by subst hW; go_simp
  have r0 : W.cell? ⟨w.heap.size + 1, 0, none⟩ = some (.bool false) := by subst hW; go_simp
  have f0 : W.frozen? ⟨w.heap.size + 1, 0, none⟩ = false := by subst hW; go_simp
  have r1 : W.cell? ⟨w.heap.size + 1, 1, none⟩ = some (.slice none 0 0) := by subst hW; go_simp
  have f1 : W.frozen? ⟨w.heap.size + 1, 1, none⟩ = false := by subst hW; go_simp
  have r2 : W.cell? ⟨w.heap.size + 1, 2, none⟩ = some (.bool false) := by subst hW; go_simp
  have f2 : W.frozen? ⟨w.heap.size + 1, 2, none⟩ = false := by subst hW; go_simp
  have r3 : W.cell? ⟨w.heap.size + 1, 3, none⟩ = some (.slice none 0 0) := by subst hW; go_simp
  have f3 : W.frozen? ⟨w.heap.size + 1, 3, none⟩ = false := by subst hW; go_simp
  have r4 : W.cell? ⟨w.heap.size + 1, 4, none⟩ = some (.slice none 0 0) := by subst hW; go_simp
  have f4 : W.frozen? ⟨w.heap.size + 1, 4, none⟩ = false := by subst hW; go_simp
  have HW : Below w.heap.size w W := by subst hW; exact (((Below.refl w.heap.size w).alloc (Nat.le_refl _) _).alloc (by simp) _)
  have l0 : w.heap.size < W.heap.size := by subst hW; simp <;> omega
  have l1 : w.heap.size + 1 < W.heap.size := by subst hW; simp
  have n0 : w.heap.size ≠ w.heap.size + 1 := by omega
  replace hx1 := hx1.to HW
  replace hx2 := hx2.to HW
  replace hx3 := hx3.to HW
  rw [← hW]
  clear hW
  replace HW := Lib.hid HW
  go_region_held3 (fun w' => w'.cell? ⟨w.heap.size, 0, none⟩ = some (.bool (sn (na x))) ∧ w'.cell? ⟨w.heap.size, 1, none⟩ = some (.slice A1 (ln (ab (na x))) cA1) ∧ w'.cell? ⟨w.heap.size, 2, none⟩ = some (.bool (sn (nb x))) ∧ w'.cell? ⟨w.heap.size, 3, none⟩ = some (.slice A2 (ln (ab (nb x))) cA2) ∧ w'.cell? ⟨w.heap.size, 4, none⟩ = some (.slice A3 (ln (nd x)) cA3)) (first | with_reducible exact ⟨s0_0, s0_1, s0_2, s0_3, s0_4⟩ | with_reducible exact ⟨(keeps (keeps (keeps (keeps (keeps s0_0 n0) n0) n0) n0) n0), (keeps (keeps (keeps (keeps (keeps s0_1 n0) n0) n0) n0) n0), (keeps (keeps (keeps (keeps (keeps s0_2 n0) n0) n0) n0) n0), (keeps (keeps (keeps (keeps (keeps s0_3 n0) n0) n0) n0) n0), (keeps (keeps (keeps (keeps (keeps s0_4 n0) n0) n0) n0) n0)⟩ | exact ⟨s0_0, s0_1, s0_2, s0_3, s0_4⟩) (first
    | (go_at_call 107; refine (rintNeg_z M2.out A2 cA2 _ (by exact hx2)).mono ?_; rintro e w1 ⟨S2, d2, rfl, h2, hb1⟩; have hb1 := undrew hb1; replace s0_0 := keepc hb1 s0_0 l0; replace s0_1 := keepc hb1 s0_1 l0; replace s0_2 := keepc hb1 s0_2 l0; replace s0_3 := keepc hb1 s0_3 l0; replace s0_4 := keepc hb1 s0_4 l0; replace r0 := keepc hb1 r0 l1; replace f0 := keepf hb1 f0 l1; replace r1 := keepc hb1 r1 l1; replace f1 := keepf hb1 f1 l1; replace r2 := keepc hb1 r2 l1; replace f2 := keepf hb1 f2 l1; replace r3 := keepc hb1 r3 l1; replace f3 := keepf hb1 f3 l1; replace r4 := keepc hb1 r4 l1; replace f4 := keepf hb1 f4 l1; replace l0 := Nat.lt_of_lt_of_le l0 hb1.size; replace l1 := Nat.lt_of_lt_of_le l1 hb1.size; replace hx1 := hx1.to hb1; replace hx2 := hx2.to hb1; replace hx3 := hx3.to hb1; replace HW := Lib.hid (hstep HW hb1); clear hb1))
  go_wp2_with fail
  rw [← M3.out] at hx3 ⊢
  rw [← M1.out] at hx1 ⊢
  exact bodyPost_ret (v := .agg #[.bool (sn (na x.conj)), .slice A1 (ln (ab (na x.conj))) cA1, .bool (sn (nb x.conj)), .slice S2 (ln (ab (nb x.conj))) d2, .slice A3 (ln (nd x.conj)) cA3]) (by simp [results, Tryz.results37, go_sem, r0, r1, r2, r3, r4, f0, f1, f2, f3, f4]) rfl (retNumC_fin HW (Num3C.mk' hx1 h2 hx3) (by omega) r0)
set_option maxHeartbeats 4000000 in
theorem rsub_num (x y : Cx) (A1 A2 A3 B1 B2 B3 : Option Addr) (cA1 cA2 cA3 cB1 cB2 cB3 : Nat) (w : World) (hx : Num3C w A1 A2 A3 x) (hy : Num3C w B1 B2 B3 y) (hsx : sz 137438953472 x) (hsy : sz 137438953472 y) :
    Calls Tryz.prog 29 #[.agg #[.bool (sn (na x)), .slice A1 (ln (ab (na x))) cA1, .bool (sn (nb x)), .slice A2 (ln (ab (nb x))) cA2, .slice A3 (ln (nd x)) cA3], .agg #[.bool (sn (na y)), .slice B1 (ln (ab (na y))) cB1, .bool (sn (nb y)), .slice B2 (ln (ab (nb y))) cB2, .slice B3 (ln (nd y)) cB3]] w (RetNumC w (x.sub y)) := by
  obtain ⟨hx1, hx2, hx3⟩ := hx
  obtain ⟨hy1, hy2, hy3⟩ := hy
  have HSX := Lib.hid hsx
  clear hsx
  have HSY := Lib.hid (sz_neg hsy)
  clear hsy
  have hd : x.sub y = x.add y.neg := rfl
  rw [hd]
  clear hd
  go_enter Tryz.func29, Tryz.ntmps29
  go_wp2_with fail
  obtain ⟨W, hW⟩ : ∃ W : World, W = (((w.alloc (.cells #[.bool (sn (na x)), .slice A1 (ln (ab (na x))) cA1, .bool (sn (nb x)), .slice A2 (ln (ab (nb x))) cA2, .slice A3 (ln (nd x)) cA3] 34)).alloc (.cells #[.bool (sn (na y)), .slice B1 (ln (ab (na y))) cB1, .bool (sn (nb y)), .slice B2 (ln (ab (nb y))) cB2, .slice B3 (ln (nd y)) cB3] 34)).alloc (.cells #[.bool false, .slice none 0 0, .bool false, .slice none 0 0, .slice none 0 0] 34)) := ⟨_, rfl⟩
  have s0_0 : W.cell? ⟨w.heap.size, 0, none⟩ = some (.bool (sn (na x))) := by subst hW; go_simp
  have s0_1 : W.cell? ⟨w.heap.size, 1, none⟩ = some (.slice A1 (ln (ab (na x))) cA1) := by subst hW; go_simp
  have s0_2 : W.cell? ⟨w.heap.size, 2, none⟩ = some (.bool (sn (nb x))) := by subst hW; go_simp
  have s0_3 : W.cell? ⟨w.heap.size, 3, none⟩ = some (.slice A2 (ln (ab (nb x))) cA2) := by subst hW; go_simp
  have s0_4 : W.cell? ⟨w.heap.size, 4, none⟩ = some (.slice A3 (ln (nd x)) cA3) := by subst hW; go_simp
  have s1_0 : W.cell? ⟨w.heap.size + 1, 0, none⟩ = some (.bool (sn (na y))) := by subst hW; go_simp
  have s1_1 : W.cell? ⟨w.heap.size + 1, 1, none⟩ = some (.slice B1 (ln (ab (na y))) cB1) := by subst hW; go_simp
  have s1_2 : W.cell? ⟨w.heap.size + 1, 2, none⟩ = some (.bool (sn (nb y))) := by subst hW; go_simp
  have s1_3 : W.cell? ⟨w.heap.size + 1, 3, none⟩ = some (.slice B2 (ln (ab (nb y))) cB2) := by subst hW; go_simp
  have s1_4 : W.cell? ⟨w.heap.size + 1, 4, none⟩ = some (.slice B3 (ln (nd y)) cB3) := by subst hW; go_simp
  have r0 : W.cell? ⟨w.heap.size + 1 + 1, 0, none⟩ = some (.bool false) := by subst hW; go_simp
  have f0 : W.frozen? ⟨w.heap.size + 1 + 1, 0, none⟩ = false := by subst hW; go_simp
  have r1 : W.cell? ⟨w.heap.size + 1 + 1, 1, none⟩ = some (.slice none 0 0) := by subst hW; go_simp
  have f1 : W.frozen? ⟨w.heap.size + 1 + 1, 1, none⟩ = false := by subst hW; go_simp
  have r2 : W.cell? ⟨w.heap.size + 1 + 1, 2, none⟩ = some (.bool false) := by subst hW; go_simp
  have f2 : W.frozen? ⟨w.heap.size + 1 + 1, 2, none⟩ = false := by subst hW; go_simp
  have r3 : W.cell? ⟨w.heap.size + 1 + 1, 3, none⟩ = some (.slice none 0 0) := by subst hW; go_simp
  have f3 : W.frozen? ⟨w.heap.size + 1 + 1, 3, none⟩ = false := by subst hW; go_simp
  have r4 : W.cell? ⟨w.heap.size + 1 + 1, 4, none⟩ = some (.slice none 0 0) := by subst hW; go_simp
  have f4 : W.frozen? ⟨w.heap.size + 1 + 1, 4, none⟩ = false := by subst hW; go_simp
  have HW : Below w.heap.size w W := by subst hW; exact ((((Below.refl w.heap.size w).alloc (Nat.le_refl _) _).alloc (by simp) _).alloc (by simp; omega) _)
  have l0 : w.heap.size < W.heap.size := by subst hW; simp <;> omega
  have l1 : w.heap.size + 1 < W.heap.size := by subst hW; simp <;> omega
  have l2 : w.heap.size + 1 + 1 < W.heap.size := by subst hW; simp
  have n0 : w.heap.size ≠ w.heap.size + 1 + 1 := by omega
  have n1 : w.heap.size + 1 ≠ w.heap.size + 1 + 1 := by omega
  replace hx1 := hx1.to HW
  replace hx2 := hx2.to HW
  replace hx3 := hx3.to HW
  replace hy1 := hy1.to HW
  replace hy2 := hy2.to HW
  replace hy3 := hy3.to HW
  rw [← hW]
  clear hW
  replace HW := Lib.hid HW
  go_region_held3 (fun w' => w'.cell? ⟨w.heap.size, 0, none⟩ = some (.bool (sn (na x))) ∧ w'.cell? ⟨w.heap.size, 1, none⟩ = some (.slice A1 (ln (ab (na x))) cA1) ∧ w'.cell? ⟨w.heap.size, 2, none⟩ = some (.bool (sn (nb x))) ∧ w'.cell? ⟨w.heap.size, 3, none⟩ = some (.slice A2 (ln (ab (nb x))) cA2) ∧ w'.cell? ⟨w.heap.size, 4, none⟩ = some (.slice A3 (ln (nd x)) cA3) ∧ w'.cell? ⟨w.heap.size + 1, 0, none⟩ = some (.bool (sn (na y))) ∧ w'.cell? ⟨w.heap.size + 1, 1, none⟩ = some (.slice B1 (ln (ab (na y))) cB1) ∧ w'.cell? ⟨w.heap.size + 1, 2, none⟩ = some (.bool (sn (nb y))) ∧ w'.cell? ⟨w.heap.size + 1, 3, none⟩ = some (.slice B2 (ln (ab (nb y))) cB2) ∧ w'.cell? ⟨w.heap.size + 1, 4, none⟩ = some (.slice B3 (ln (nd y)) cB3)) (first | with_reducible exact ⟨s0_0, s0_1, s0_2, s0_3, s0_4, s1_0, s1_1, s1_2, s1_3, s1_4⟩ | with_reducible exact ⟨(keeps (keeps (keeps (keeps (keeps s0_0 n0) n0) n0) n0) n0), (keeps (keeps (keeps (keeps (keeps s0_1 n0) n0) n0) n0) n0), (keeps (keeps (keeps (keeps (keeps s0_2 n0) n0) n0) n0) n0), (keeps (keeps (keeps (keeps (keeps s0_3 n0) n0) n0) n0) n0), (keeps (keeps (keeps (keeps (keeps s0_4 n0) n0) n0) n0) n0), (keeps (keeps (keeps (keeps (keeps s1_0 n1) n1) n1) n1) n1), (keeps (keeps (keeps (keeps (keeps s1_1 n1) n1) n1) n1) n1), (keeps (keeps (keeps (keeps (keeps s1_2 n1) n1) n1) n1) n1), (keeps (keeps (keeps (keeps (keeps s1_3 n1) n1) n1) n1) n1), (keeps (keeps (keeps (keeps (keeps s1_4 n1) n1) n1) n1) n1)⟩ | exact ⟨s0_0, s0_1, s0_2, s0_3, s0_4, s1_0, s1_1, s1_2, s1_3, s1_4⟩) (first
    | (go_at_call 35; refine (rneg_num y B1 B2 B3 cB1 cB2 cB3 _ (by exact Num3C.mk' hy1 hy2 hy3)).mono ?_; rintro e w1 ⟨M1, M2, M3, cM1, cM2, cM3, rfl, h1, hb1⟩; have hb1 := undrew hb1; replace s0_0 := keepc hb1 s0_0 l0; replace s0_1 := keepc hb1 s0_1 l0; replace s0_2 := keepc hb1 s0_2 l0; replace s0_3 := keepc hb1 s0_3 l0; replace s0_4 := keepc hb1 s0_4 l0; replace s1_0 := keepc hb1 s1_0 l1; replace s1_1 := keepc hb1 s1_1 l1; replace s1_2 := keepc hb1 s1_2 l1; replace s1_3 := keepc hb1 s1_3 l1; replace s1_4 := keepc hb1 s1_4 l1; replace r0 := keepc hb1 r0 l2; replace f0 := keepf hb1 f0 l2; replace r1 := keepc hb1 r1 l2; replace f1 := keepf hb1 f1 l2; replace r2 := keepc hb1 r2 l2; replace f2 := keepf hb1 f2 l2; replace r3 := keepc hb1 r3 l2; replace f3 := keepf hb1 f3 l2; replace r4 := keepc hb1 r4 l2; replace f4 := keepf hb1 f4 l2; replace l0 := Nat.lt_of_lt_of_le l0 hb1.size; replace l1 := Nat.lt_of_lt_of_le l1 hb1.size; replace l2 := Nat.lt_of_lt_of_le l2 hb1.size; replace hx1 := hx1.to hb1; replace hx2 := hx2.to hb1; replace hx3 := hx3.to hb1; replace hy1 := hy1.to hb1; replace hy2 := hy2.to hb1; replace hy3 := hy3.to hb1; replace HW := Lib.hid (hstep HW hb1); clear hb1)
    | (go_at_call 27; refine (radd_any x y.neg A1 A2 A3 M1 M2 M3 cA1 cA2 cA3 cM1 cM2 cM3 _ (by exact Num3C.mk' hx1 hx2 hx3) (by exact h1) HSX.out HSY.out).mono ?_; rintro e w2 ⟨Z1, Z2, Z3, cZ1, cZ2, cZ3, rfl, h2, hb2⟩; replace s0_0 := keepc hb2 s0_0 l0; replace s0_1 := keepc hb2 s0_1 l0; replace s0_2 := keepc hb2 s0_2 l0; replace s0_3 := keepc hb2 s0_3 l0; replace s0_4 := keepc hb2 s0_4 l0; replace s1_0 := keepc hb2 s1_0 l1; replace s1_1 := keepc hb2 s1_1 l1; replace s1_2 := keepc hb2 s1_2 l1; replace s1_3 := keepc hb2 s1_3 l1; replace s1_4 := keepc hb2 s1_4 l1; replace r0 := keepc hb2 r0 l2; replace f0 := keepf hb2 f0 l2; replace r1 := keepc hb2 r1 l2; replace f1 := keepf hb2 f1 l2; replace r2 := keepc hb2 r2 l2; replace f2 := keepf hb2 f2 l2; replace r3 := keepc hb2 r3 l2; replace f3 := keepf hb2 f3 l2; replace r4 := keepc hb2 r4 l2; replace f4 := keepf hb2 f4 l2; replace l0 := Nat.lt_of_lt_of_le l0 hb2.size; replace l1 := Nat.lt_of_lt_of_le l1 hb2.size; replace l2 := Nat.lt_of_lt_of_le l2 hb2.size; replace hx1 := hx1.to hb2; replace hx2 := hx2.to hb2; replace hx3 := hx3.to hb2; replace hy1 := hy1.to hb2; replace hy2 := hy2.to hb2; replace hy3 := hy3.to hb2; replace h1 := h1.to hb2; replace HW := Lib.hid (hstep HW hb2); clear hb2))
  go_wp2_with fail
  exact bodyPost_ret (v := .agg #[.bool (sn (na (x.add y.neg))), .slice Z1 (ln (ab (na (x.add y.neg)))) cZ1, .bool (sn (nb (x.add y.neg))), .slice Z2 (ln (ab (nb (x.add y.neg)))) cZ2, .slice Z3 (ln (nd (x.add y.neg))) cZ3]) (by simp [results, Tryz.results29, go_sem, r0, r1, r2, r3, r4, f0, f1, f2, f3, f4]) rfl (retNumC_fin HW h2 (by omega) r0)
set_option maxHeartbeats 4000000 in
theorem rnorm_num (x : Cx) (A1 A2 A3 : Option Addr) (cA1 cA2 cA3 : Nat) (w : World) (hx : Num3C w A1 A2 A3 x) (hsx : sz 137438953472 x) :
    Calls Tryz.prog 39 #[.agg #[.bool (sn (na x)), .slice A1 (ln (ab (na x))) cA1, .bool (sn (nb x)), .slice A2 (ln (ab (nb x))) cA2, .slice A3 (ln (nd x)) cA3]] w (RetNumC w x.norm) := by
  obtain ⟨hx1, hx2, hx3⟩ := hx
  have HSC := Lib.hid (sz_conj hsx)
  have HSX := Lib.hid hsx
  clear hsx
  rw [← norm_conj]
  go_enter Tryz.func39, Tryz.ntmps39
  go_wp2_with fail
  obtain ⟨W, hW⟩ : ∃ W : World, W = ((w.alloc (.cells #[.bool (sn (na x)), .slice A1 (ln (ab (na x))) cA1, .bool (sn (nb x)), .slice A2 (ln (ab (nb x))) cA2, .slice A3 (ln (nd x)) cA3] 34)).alloc (.cells #[.bool false, .slice none 0 0, .bool false, .slice none 0 0, .slice none 0 0] 34)) := ⟨_, rfl⟩
  have s0_0 : W.cell? ⟨w.heap.size, 0, none⟩ = some (.bool (sn (na x))) := by subst hW; go_simp
  have s0_1 : W.cell? ⟨w.heap.size, 1, none⟩ = some (.slice A1 (ln (ab (na x))) cA1) := by subst hW; go_simp
  have s0_2 : W.cell? ⟨w.heap.size, 2, none⟩ = some (.bool (sn (nb x))) := by subst hW; go_simp
  have s0_3 : W.cell? ⟨w.heap.size, 3, none⟩ = some (.slice A2 (ln (ab (nb x))) cA2) := by subst hW; go_simp
  have s0_4 : W.cell? ⟨w.heap.size, 4, none⟩ = some (.slice A3 (ln (nd x)) cA3) := by subst hW; go_simp
  have r0 : W.cell? ⟨w.heap.size + 1, 0, none⟩ = some (.bool false) := by subst hW; go_simp
  have f0 : W.frozen? ⟨w.heap.size + 1, 0, none⟩ = false := by subst hW; go_simp
  have r1 : W.cell? ⟨w.heap.size + 1, 1, none⟩ = some (.slice none 0 0) := by subst hW; go_simp
  have f1 : W.frozen? ⟨w.heap.size + 1, 1, none⟩ = false := by subst hW; go_simp
  have r2 : W.cell? ⟨w.heap.size + 1, 2, none⟩ = some (.bool false) := by subst hW; go_simp
  have f2 : W.frozen? ⟨w.heap.size + 1, 2, none⟩ = false := by subst hW; go_simp
  have r3 : W.cell? ⟨w.heap.size + 1, 3, none⟩ = some (.slice none 0 0) := by subst hW; go_simp
  have f3 : W.frozen? ⟨w.heap.size + 1, 3, none⟩ = false := by subst hW; go_simp
  have r4 : W.cell? ⟨w.heap.size + 1, 4, none⟩ = some (.slice none 0 0) := by subst hW; go_simp
  have f4 : W.frozen? ⟨w.heap.size + 1, 4, none⟩ = false := by subst hW; go_simp
  have HW : Below w.heap.size w W := by subst hW; exact (((Below.refl w.heap.size w).alloc (Nat.le_refl _) _).alloc (by simp) _)
  have l0 : w.heap.size < W.heap.size := by subst hW; simp <;> omega
  have l1 : w.heap.size + 1 < W.heap.size := by subst hW; simp
  have n0 : w.heap.size ≠ w.heap.size + 1 := by omega
  replace hx1 := hx1.to HW
  replace hx2 := hx2.to HW
  replace hx3 := hx3.to HW
  rw [← hW]
  clear hW
  replace HW := Lib.hid HW
  go_region_held3 (fun w' => w'.cell? ⟨w.heap.size, 0, none⟩ = some (.bool (sn (na x))) ∧ w'.cell? ⟨w.heap.size, 1, none⟩ = some (.slice A1 (ln (ab (na x))) cA1) ∧ w'.cell? ⟨w.heap.size, 2, none⟩ = some (.bool (sn (nb x))) ∧ w'.cell? ⟨w.heap.size, 3, none⟩ = some (.slice A2 (ln (ab (nb x))) cA2) ∧ w'.cell? ⟨w.heap.size, 4, none⟩ = some (.slice A3 (ln (nd x)) cA3)) (first | with_reducible exact ⟨s0_0, s0_1, s0_2, s0_3, s0_4⟩ | with_reducible exact ⟨(keeps (keeps (keeps (keeps (keeps s0_0 n0) n0) n0) n0) n0), (keeps (keeps (keeps (keeps (keeps s0_1 n0) n0) n0) n0) n0), (keeps (keeps (keeps (keeps (keeps s0_2 n0) n0) n0) n0) n0), (keeps (keeps (keeps (keeps (keeps s0_3 n0) n0) n0) n0) n0), (keeps (keeps (keeps (keeps (keeps s0_4 n0) n0) n0) n0) n0)⟩ | exact ⟨s0_0, s0_1, s0_2, s0_3, s0_4⟩) (first
    | (go_at_call 37; refine (rconj_num x A1 A2 A3 cA1 cA2 cA3 _ (by exact Num3C.mk' hx1 hx2 hx3)).mono ?_; rintro e w1 ⟨M1, M2, M3, cM1, cM2, cM3, rfl, h1, hb1⟩; have hb1 := undrew hb1; replace s0_0 := keepc hb1 s0_0 l0; replace s0_1 := keepc hb1 s0_1 l0; replace s0_2 := keepc hb1 s0_2 l0; replace s0_3 := keepc hb1 s0_3 l0; replace s0_4 := keepc hb1 s0_4 l0; replace r0 := keepc hb1 r0 l1; replace f0 := keepf hb1 f0 l1; replace r1 := keepc hb1 r1 l1; replace f1 := keepf hb1 f1 l1; replace r2 := keepc hb1 r2 l1; replace f2 := keepf hb1 f2 l1; replace r3 := keepc hb1 r3 l1; replace f3 := keepf hb1 f3 l1; replace r4 := keepc hb1 r4 l1; replace f4 := keepf hb1 f4 l1; replace l0 := Nat.lt_of_lt_of_le l0 hb1.size; replace l1 := Nat.lt_of_lt_of_le l1 hb1.size; replace hx1 := hx1.to hb1; replace hx2 := hx2.to hb1; replace hx3 := hx3.to hb1; replace HW := Lib.hid (hstep HW hb1); clear hb1)
    | (go_at_call 31; refine (rmul_any x x.conj A1 A2 A3 M1 M2 M3 cA1 cA2 cA3 cM1 cM2 cM3 _ (by exact Num3C.mk' hx1 hx2 hx3) (by exact h1) HSX.out HSC.out).mono ?_; rintro e w2 ⟨Z1, Z2, Z3, cZ1, cZ2, cZ3, rfl, h2, hb2⟩; replace s0_0 := keepc hb2 s0_0 l0; replace s0_1 := keepc hb2 s0_1 l0; replace s0_2 := keepc hb2 s0_2 l0; replace s0_3 := keepc hb2 s0_3 l0; replace s0_4 := keepc hb2 s0_4 l0; replace r0 := keepc hb2 r0 l1; replace f0 := keepf hb2 f0 l1; replace r1 := keepc hb2 r1 l1; replace f1 := keepf hb2 f1 l1; replace r2 := keepc hb2 r2 l1; replace f2 := keepf hb2 f2 l1; replace r3 := keepc hb2 r3 l1; replace f3 := keepf hb2 f3 l1; replace r4 := keepc hb2 r4 l1; replace f4 := keepf hb2 f4 l1; replace l0 := Nat.lt_of_lt_of_le l0 hb2.size; replace l1 := Nat.lt_of_lt_of_le l1 hb2.size; replace hx1 := hx1.to hb2; replace hx2 := hx2.to hb2; replace hx3 := hx3.to hb2; replace h1 := h1.to hb2; replace HW := Lib.hid (hstep HW hb2); clear hb2))
  go_wp2_with fail
  exact bodyPost_ret (v := .agg #[.bool (sn (na (x.mul x.conj))), .slice Z1 (ln (ab (na (x.mul x.conj)))) cZ1, .bool (sn (nb (x.mul x.conj))), .slice Z2 (ln (ab (nb (x.mul x.conj)))) cZ2, .slice Z3 (ln (nd (x.mul x.conj))) cZ3]) (by simp [results, Tryz.results39, go_sem, r0, r1, r2, r3, r4, f0, f1, f2, f3, f4]) rfl (retNumC_fin HW h2 (by omega) r0)
set_option maxHeartbeats 4000000 in
theorem rre_num (x : Cx) (A1 A2 A3 : Option Addr) (cA1 cA2 cA3 : Nat) (w : World) (hx : Num3C w A1 A2 A3 x) (hsx : sz 137438953472 x) :
    Calls Tryz.prog 42 #[.agg #[.bool (sn (na x)), .slice A1 (ln (ab (na x))) cA1, .bool (sn (nb x)), .slice A2 (ln (ab (nb x))) cA2, .slice A3 (ln (nd x)) cA3]] w (RetNumC w x.reOf) := by
  obtain ⟨hx1, hx2, hx3⟩ := hx
  have HSX := Lib.hid hsx
  clear hsx
  rw [← re_fr]
  go_enter Tryz.func42, Tryz.ntmps42
  go_wp2_with fail
  obtain ⟨W, hW⟩ : ∃ W : World, W = ((w.alloc (.cells #[.bool (sn (na x)), .slice A1 (ln (ab (na x))) cA1, .bool (sn (nb x)), .slice A2 (ln (ab (nb x))) cA2, .slice A3 (ln (nd x)) cA3] 34)).alloc (.cells #[.bool false, .slice none 0 0, .bool false, .slice none 0 0, .slice none 0 0] 34)) := ⟨_, rfl⟩
  have s0_0 : W.cell? ⟨w.heap.size, 0, none⟩ = some (.bool (sn (na x))) := by subst hW; go_simp
  have s0_1 : W.cell? ⟨w.heap.size, 1, none⟩ = some (.slice A1 (ln (ab (na x))) cA1) := by subst hW; go_simp
  have s0_2 : W.cell? ⟨w.heap.size, 2, none⟩ = some (.bool (sn (nb x))) := by subst hW; go_simp
  have s0_3 : W.cell? ⟨w.heap.size, 3, none⟩ = some (.slice A2 (ln (ab (nb x))) cA2) := by subst hW; go_simp
  have s0_4 : W.cell? ⟨w.heap.size, 4, none⟩ = some (.slice A3 (ln (nd x)) cA3) := by subst hW; go_simp
  have r0 : W.cell? ⟨w.heap.size + 1, 0, none⟩ = some (.bool false) := by subst hW; go_simp
  have f0 : W.frozen? ⟨w.heap.size + 1, 0, none⟩ = false := by subst hW; go_simp
  have r1 : W.cell? ⟨w.heap.size + 1, 1, none⟩ = some (.slice none 0 0) := by subst hW; go_simp
  have f1 : W.frozen? ⟨w.heap.size + 1, 1, none⟩ = false := by subst hW; go_simp
  have r2 : W.cell? ⟨w.heap.size + 1, 2, none⟩ = some (.bool false) := by subst hW; go_simp
  have f2 : W.frozen? ⟨w.heap.size + 1, 2, none⟩ = false := by subst hW; go_simp
  have r3 : W.cell? ⟨w.heap.size + 1, 3, none⟩ = some (.slice none 0 0) := by subst hW; go_simp
  have f3 : W.frozen? ⟨w.heap.size + 1, 3, none⟩ = false := by subst hW; go_simp
  have r4 : W.cell? ⟨w.heap.size + 1, 4, none⟩ = some (.slice none 0 0) := by subst hW; go_simp
  have f4 : W.frozen? ⟨w.heap.size + 1, 4, none⟩ = false := by subst hW; go_simp
  have HW : Below w.heap.size w W := by subst hW; exact (((Below.refl w.heap.size w).alloc (Nat.le_refl _) _).alloc (by simp) _)
  have l0 : w.heap.size < W.heap.size := by subst hW; simp <;> omega
  have l1 : w.heap.size + 1 < W.heap.size := by subst hW; simp
  have n0 : w.heap.size ≠ w.heap.size + 1 := by omega
  replace hx1 := hx1.to HW
  replace hx2 := hx2.to HW
  replace hx3 := hx3.to HW
  rw [← hW]
  clear hW
  replace HW := Lib.hid HW
  refine (rmake_re (na x) (nd x) A1 A3 cA1 cA3 _ (by exact hx1) (by exact hx3) (by have := HSX.out; unfold sz at this; omega) (by have := HSX.out; unfold sz at this; omega) (nd_ne0 x)).mono ?_
  rintro e w1 ⟨Z1, Z2, Z3, cZ1, cZ2, cZ3, rfl, h1, hb1⟩
  replace s0_0 := keepc hb1 s0_0 l0
  replace s0_1 := keepc hb1 s0_1 l0
  replace s0_2 := keepc hb1 s0_2 l0
  replace s0_3 := keepc hb1 s0_3 l0
  replace s0_4 := keepc hb1 s0_4 l0
  replace r0 := keepc hb1 r0 l1
  replace f0 := keepf hb1 f0 l1
  replace r1 := keepc hb1 r1 l1
  replace f1 := keepf hb1 f1 l1
  replace r2 := keepc hb1 r2 l1
  replace f2 := keepf hb1 f2 l1
  replace r3 := keepc hb1 r3 l1
  replace f3 := keepf hb1 f3 l1
  replace r4 := keepc hb1 r4 l1
  replace f4 := keepf hb1 f4 l1
  replace l0 := Nat.lt_of_lt_of_le l0 hb1.size
  replace l1 := Nat.lt_of_lt_of_le l1 hb1.size
  replace hx1 := hx1.to hb1
  replace hx2 := hx2.to hb1
  replace hx3 := hx3.to hb1
  replace HW := Lib.hid (hstep HW hb1)
  clear hb1
  go_wp2_with fail
  exact bodyPost_ret (v := .agg #[.bool (sn (na (fr (na x) 0 (nd x)))), .slice Z1 (ln (ab (na (fr (na x) 0 (nd x))))) cZ1, .bool (sn (nb (fr (na x) 0 (nd x)))), .slice Z2 (ln (ab (nb (fr (na x) 0 (nd x))))) cZ2, .slice Z3 (ln (nd (fr (na x) 0 (nd x)))) cZ3]) (by simp [results, Tryz.results42, go_sem, r0, r1, r2, r3, r4, f0, f1, f2, f3, f4]) rfl (retNumC_fin HW h1 (by omega) r0)
set_option maxHeartbeats 4000000 in
theorem rim_num (x : Cx) (A1 A2 A3 : Option Addr) (cA1 cA2 cA3 : Nat) (w : World) (hx : Num3C w A1 A2 A3 x) (hsx : sz 137438953472 x) :
    Calls Tryz.prog 43 #[.agg #[.bool (sn (na x)), .slice A1 (ln (ab (na x))) cA1, .bool (sn (nb x)), .slice A2 (ln (ab (nb x))) cA2, .slice A3 (ln (nd x)) cA3]] w (RetNumC w x.imOf) := by
  obtain ⟨hx1, hx2, hx3⟩ := hx
  have HSX := Lib.hid hsx
  clear hsx
  rw [← im_fr]
  go_enter Tryz.func43, Tryz.ntmps43
  go_wp2_with fail
  obtain ⟨W, hW⟩ : ∃ W : World, W = ((w.alloc (.cells #[.bool (sn (na x)), .slice A1 (ln (ab (na x))) cA1, .bool (sn (nb x)), .slice A2 (ln (ab (nb x))) cA2, .slice A3 (ln (nd x)) cA3] 34)).alloc (.cells #[.bool false, .slice none 0 0, .bool false, .slice none 0 0, .slice none 0 0] 34)) := ⟨_, rfl⟩
  have s0_0 : W.cell? ⟨w.heap.size, 0, none⟩ = some (.bool (sn (na x))) := by subst hW; go_simp
  have s0_1 : W.cell? ⟨w.heap.size, 1, none⟩ = some (.slice A1 (ln (ab (na x))) cA1) := by subst hW; go_simp
  have s0_2 : W.cell? ⟨w.heap.size, 2, none⟩ = some (.bool (sn (nb x))) := by subst hW; go_simp
  have s0_3 : W.cell? ⟨w.heap.size, 3, none⟩ = some (.slice A2 (ln (ab (nb x))) cA2) := by subst hW; go_simp
  have s0_4 : W.cell? ⟨w.heap.size, 4, none⟩ = some (.slice A3 (ln (nd x)) cA3) := by subst hW; go_simp
  have r0 : W.cell? ⟨w.heap.size + 1, 0, none⟩ = some (.bool false) := by subst hW; go_simp
  have f0 : W.frozen? ⟨w.heap.size + 1, 0, none⟩ = false := by subst hW; go_simp
  have r1 : W.cell? ⟨w.heap.size + 1, 1, none⟩ = some (.slice none 0 0) := by subst hW; go_simp
  have f1 : W.frozen? ⟨w.heap.size + 1, 1, none⟩ = false := by subst hW; go_simp
  have r2 : W.cell? ⟨w.heap.size + 1, 2, none⟩ = some (.bool false) := by subst hW; go_simp
  have f2 : W.frozen? ⟨w.heap.size + 1, 2, none⟩ = false := by subst hW; go_simp
  have r3 : W.cell? ⟨w.heap.size + 1, 3, none⟩ = some (.slice none 0 0) := by subst hW; go_simp
  have f3 : W.frozen? ⟨w.heap.size + 1, 3, none⟩ = false := by subst hW; go_simp
  have r4 : W.cell? ⟨w.heap.size + 1, 4, none⟩ = some (.slice none 0 0) := by subst hW; go_simp
  have f4 : W.frozen? ⟨w.heap.size + 1, 4, none⟩ = false := by subst hW; go_simp
  have HW : Below w.heap.size w W := by subst hW; exact (((Below.refl w.heap.size w).alloc (Nat.le_refl _) _).alloc (by simp) _)
  have l0 : w.heap.size < W.heap.size := by subst hW; simp <;> omega
  have l1 : w.heap.size + 1 < W.heap.size := by subst hW; simp
  have n0 : w.heap.size ≠ w.heap.size + 1 := by omega
  replace hx1 := hx1.to HW
  replace hx2 := hx2.to HW
  replace hx3 := hx3.to HW
  rw [← hW]
  clear hW
  replace HW := Lib.hid HW
  refine (rmake_re (nb x) (nd x) A2 A3 cA2 cA3 _ (by exact hx2) (by exact hx3) (by have := HSX.out; unfold sz at this; omega) (by have := HSX.out; unfold sz at this; omega) (nd_ne0 x)).mono ?_
  rintro e w1 ⟨Z1, Z2, Z3, cZ1, cZ2, cZ3, rfl, h1, hb1⟩
  replace s0_0 := keepc hb1 s0_0 l0
  replace s0_1 := keepc hb1 s0_1 l0
  replace s0_2 := keepc hb1 s0_2 l0
  replace s0_3 := keepc hb1 s0_3 l0
  replace s0_4 := keepc hb1 s0_4 l0
  replace r0 := keepc hb1 r0 l1
  replace f0 := keepf hb1 f0 l1
  replace r1 := keepc hb1 r1 l1
  replace f1 := keepf hb1 f1 l1
  replace r2 := keepc hb1 r2 l1
  replace f2 := keepf hb1 f2 l1
  replace r3 := keepc hb1 r3 l1
  replace f3 := keepf hb1 f3 l1
  replace r4 := keepc hb1 r4 l1
  replace f4 := keepf hb1 f4 l1
  replace l0 := Nat.lt_of_lt_of_le l0 hb1.size
  replace l1 := Nat.lt_of_lt_of_le l1 hb1.size
  replace hx1 := hx1.to hb1
  replace hx2 := hx2.to hb1
  replace hx3 := hx3.to hb1
  replace HW := Lib.hid (hstep HW hb1)
  clear hb1
  go_wp2_with fail
  exact bodyPost_ret (v := .agg #[.bool (sn (na (fr (nb x) 0 (nd x)))), .slice Z1 (ln (ab (na (fr (nb x) 0 (nd x))))) cZ1, .bool (sn (nb (fr (nb x) 0 (nd x)))), .slice Z2 (ln (ab (nb (fr (nb x) 0 (nd x))))) cZ2, .slice Z3 (ln (nd (fr (nb x) 0 (nd x)))) cZ3]) (by simp [results, Tryz.results43, go_sem, r0, r1, r2, r3, r4, f0, f1, f2, f3, f4]) rfl (retNumC_fin HW h1 (by omega) r0)
set_option maxHeartbeats 4000000 in
theorem rim_big (x : Cx) (A1 A2 A3 : Option Addr) (cA1 cA2 cA3 : Nat) (w : World) (hx : Num3C w A1 A2 A3 x) (hsx : sz 1099511627776 x) :
    Calls Tryz.prog 43 #[.agg #[.bool (sn (na x)), .slice A1 (ln (ab (na x))) cA1, .bool (sn (nb x)), .slice A2 (ln (ab (nb x))) cA2, .slice A3 (ln (nd x)) cA3]] w (RetNumC w x.imOf) := by
  obtain ⟨hx1, hx2, hx3⟩ := hx
  have HSX := Lib.hid hsx
  clear hsx
  rw [← im_fr]
  go_enter Tryz.func43, Tryz.ntmps43
  go_wp2_with fail
  obtain ⟨W, hW⟩ : ∃ W : World, W = ((w.alloc (.cells #[.bool (sn (na x)), .slice A1 (ln (ab (na x))) cA1, .bool (sn (nb x)), .slice A2 (ln (ab (nb x))) cA2, .slice A3 (ln (nd x)) cA3] 34)).alloc (.cells #[.bool false, .slice none 0 0, .bool false, .slice none 0 0, .slice none 0 0] 34)) := ⟨_, rfl⟩
  have s0_0 : W.cell? ⟨w.heap.size, 0, none⟩ = some (.bool (sn (na x))) := by subst hW; go_simp
  have s0_1 : W.cell? ⟨w.heap.size, 1, none⟩ = some (.slice A1 (ln (ab (na x))) cA1) := by subst hW; go_simp
  have s0_2 : W.cell? ⟨w.heap.size, 2, none⟩ = some (.bool (sn (nb x))) := by subst hW; go_simp
  have s0_3 : W.cell? ⟨w.heap.size, 3, none⟩ = some (.slice A2 (ln (ab (nb x))) cA2) := by subst hW; go_simp
  have s0_4 : W.cell? ⟨w.heap.size, 4, none⟩ = some (.slice A3 (ln (nd x)) cA3) := by subst hW; go_simp
  have r0 : W.cell? ⟨w.heap.size + 1, 0, none⟩ = some (.bool false) := by subst hW; go_simp
  have f0 : W.frozen? ⟨w.heap.size + 1, 0, none⟩ = false := by subst hW; go_simp
  have r1 : W.cell? ⟨w.heap.size + 1, 1, none⟩ = some (.slice none 0 0) := by subst hW; go_simp
  have f1 : W.frozen? ⟨w.heap.size + 1, 1, none⟩ = false := by subst hW; go_simp
  have r2 : W.cell? ⟨w.heap.size + 1, 2, none⟩ = some (.bool false) := by subst hW; go_simp
  have f2 : W.frozen? ⟨w.heap.size + 1, 2, none⟩ = false := by subst hW; go_simp
  have r3 : W.cell? ⟨w.heap.size + 1, 3, none⟩ = some (.slice none 0 0) := by subst hW; go_simp
  have f3 : W.frozen? ⟨w.heap.size + 1, 3, none⟩ = false := by subst hW; go_simp
  have r4 : W.cell? ⟨w.heap.size + 1, 4, none⟩ = some (.slice none 0 0) := by subst hW; go_simp
  have f4 : W.frozen? ⟨w.heap.size + 1, 4, none⟩ = false := by subst hW; go_simp
  have HW : Below w.heap.size w W := by subst hW; exact (((Below.refl w.heap.size w).alloc (Nat.le_refl _) _).alloc (by simp) _)
  have l0 : w.heap.size < W.heap.size := by subst hW; simp <;> omega
  have l1 : w.heap.size + 1 < W.heap.size := by subst hW; simp
  have n0 : w.heap.size ≠ w.heap.size + 1 := by omega
  replace hx1 := hx1.to HW
  replace hx2 := hx2.to HW
  replace hx3 := hx3.to HW
  rw [← hW]
  clear hW
  replace HW := Lib.hid HW
  refine (rmake_re (nb x) (nd x) A2 A3 cA2 cA3 _ (by exact hx2) (by exact hx3) (by have := HSX.out; unfold sz at this; omega) (by have := HSX.out; unfold sz at this; omega) (nd_ne0 x)).mono ?_
  rintro e w1 ⟨Z1, Z2, Z3, cZ1, cZ2, cZ3, rfl, h1, hb1⟩
  replace s0_0 := keepc hb1 s0_0 l0
  replace s0_1 := keepc hb1 s0_1 l0
  replace s0_2 := keepc hb1 s0_2 l0
  replace s0_3 := keepc hb1 s0_3 l0
  replace s0_4 := keepc hb1 s0_4 l0
  replace r0 := keepc hb1 r0 l1
  replace f0 := keepf hb1 f0 l1
  replace r1 := keepc hb1 r1 l1
  replace f1 := keepf hb1 f1 l1
  replace r2 := keepc hb1 r2 l1
  replace f2 := keepf hb1 f2 l1
  replace r3 := keepc hb1 r3 l1
  replace f3 := keepf hb1 f3 l1
  replace r4 := keepc hb1 r4 l1
  replace f4 := keepf hb1 f4 l1
  replace l0 := Nat.lt_of_lt_of_le l0 hb1.size
  replace l1 := Nat.lt_of_lt_of_le l1 hb1.size
  replace hx1 := hx1.to hb1
  replace hx2 := hx2.to hb1
  replace hx3 := hx3.to hb1
  replace HW := Lib.hid (hstep HW hb1)
  clear hb1
  go_wp2_with fail
  exact bodyPost_ret (v := .agg #[.bool (sn (na (fr (nb x) 0 (nd x)))), .slice Z1 (ln (ab (na (fr (nb x) 0 (nd x))))) cZ1, .bool (sn (nb (fr (nb x) 0 (nd x)))), .slice Z2 (ln (ab (nb (fr (nb x) 0 (nd x))))) cZ2, .slice Z3 (ln (nd (fr (nb x) 0 (nd x)))) cZ3]) (by simp [results, Tryz.results43, go_sem, r0, r1, r2, r3, r4, f0, f1, f2, f3, f4]) rfl (retNumC_fin HW h1 (by omega) r0)
theorem zero_bool (x : Cx) : decide (x = Cx.zero) = (((ln (ab (na x)) : Int) == 0) && ((ln (ab (nb x)) : Int) == 0)) := by
  rw [Bool.eq_iff_iff, Bool.and_eq_true, beq_iff_eq, beq_iff_eq, decide_eq_true_eq]
  constructor
  · rintro rfl
    obtain ⟨e1, e2, _⟩ := zero_form
    rw [e1, e2]; exact ⟨by show ((ln 0 : Nat) : Int) = 0; rw [ln_zero]; rfl, by show ((ln 0 : Nat) : Int) = 0; rw [ln_zero]; rfl⟩
  · rintro ⟨h1, h2⟩
    have e1 := ln_eq0 (n := ab (na x)) (by omega)
    have e2 := ln_eq0 (n := ab (nb x)) (by omega)
    exact (zero_iff x).1 ⟨by unfold ab at e1; omega, by unfold ab at e2; omega⟩
set_option maxHeartbeats 4000000 in
theorem rzero_0 (x : Cx) (A1 A2 A3 : Option Addr) (cA1 cA2 cA3 : Nat) (w : World) (hx : Num3C w A1 A2 A3 x) (h1 : ((ln (ab (na x)) : Int) == 0) = false) :
    Calls Tryz.prog 47 #[.agg #[.bool (sn (na x)), .slice A1 (ln (ab (na x))) cA1, .bool (sn (nb x)), .slice A2 (ln (ab (nb x))) cA2, .slice A3 (ln (nd x)) cA3]] w (RetBool w (decide (x = Cx.zero))) := by
  obtain ⟨hx1, hx2, hx3⟩ := hx
  have E := Lib.hid (zero_bool x)
  go_enter Tryz.func47, Tryz.ntmps47
  go_wp2_with fail
  obtain ⟨W, hW⟩ : ∃ W : World, W = (w.alloc (.cells #[.bool (sn (na x)), .slice A1 (ln (ab (na x))) cA1, .bool (sn (nb x)), .slice A2 (ln (ab (nb x))) cA2, .slice A3 (ln (nd x)) cA3] 34)) := ⟨_, rfl⟩
  have s0_0 : W.cell? ⟨w.heap.size, 0, none⟩ = some (.bool (sn (na x))) := by subst hW; go_simp
  have s0_1 : W.cell? ⟨w.heap.size, 1, none⟩ = some (.slice A1 (ln (ab (na x))) cA1) := by subst hW; go_simp
  have s0_2 : W.cell? ⟨w.heap.size, 2, none⟩ = some (.bool (sn (nb x))) := by subst hW; go_simp
  have s0_3 : W.cell? ⟨w.heap.size, 3, none⟩ = some (.slice A2 (ln (ab (nb x))) cA2) := by subst hW; go_simp
  have s0_4 : W.cell? ⟨w.heap.size, 4, none⟩ = some (.slice A3 (ln (nd x)) cA3) := by subst hW; go_simp
  have HW : Below w.heap.size w W := by subst hW; exact ((Below.refl w.heap.size w).alloc (Nat.le_refl _) _)
  have l0 : w.heap.size < W.heap.size := by subst hW; simp
  replace hx1 := hx1.to HW
  replace hx2 := hx2.to HW
  replace hx3 := hx3.to HW
  rw [← hW]
  clear hW
  replace HW := Lib.hid HW
  go_ret
  rw [E.out, h1]
  exact ⟨by first | rfl | simp, HW.out⟩
set_option maxHeartbeats 4000000 in
theorem rzero_1 (x : Cx) (A1 A2 A3 : Option Addr) (cA1 cA2 cA3 : Nat) (w : World) (hx : Num3C w A1 A2 A3 x) (h1 : ((ln (ab (na x)) : Int) == 0) = true) :
    Calls Tryz.prog 47 #[.agg #[.bool (sn (na x)), .slice A1 (ln (ab (na x))) cA1, .bool (sn (nb x)), .slice A2 (ln (ab (nb x))) cA2, .slice A3 (ln (nd x)) cA3]] w (RetBool w (decide (x = Cx.zero))) := by
  obtain ⟨hx1, hx2, hx3⟩ := hx
  have E := Lib.hid (zero_bool x)
  go_enter Tryz.func47, Tryz.ntmps47
  go_wp2_with fail
  obtain ⟨W, hW⟩ : ∃ W : World, W = (w.alloc (.cells #[.bool (sn (na x)), .slice A1 (ln (ab (na x))) cA1, .bool (sn (nb x)), .slice A2 (ln (ab (nb x))) cA2, .slice A3 (ln (nd x)) cA3] 34)) := ⟨_, rfl⟩
  have s0_0 : W.cell? ⟨w.heap.size, 0, none⟩ = some (.bool (sn (na x))) := by subst hW; go_simp
  have s0_1 : W.cell? ⟨w.heap.size, 1, none⟩ = some (.slice A1 (ln (ab (na x))) cA1) := by subst hW; go_simp
  have s0_2 : W.cell? ⟨w.heap.size, 2, none⟩ = some (.bool (sn (nb x))) := by subst hW; go_simp
  have s0_3 : W.cell? ⟨w.heap.size, 3, none⟩ = some (.slice A2 (ln (ab (nb x))) cA2) := by subst hW; go_simp
  have s0_4 : W.cell? ⟨w.heap.size, 4, none⟩ = some (.slice A3 (ln (nd x)) cA3) := by subst hW; go_simp
  have HW : Below w.heap.size w W := by subst hW; exact ((Below.refl w.heap.size w).alloc (Nat.le_refl _) _)
  have l0 : w.heap.size < W.heap.size := by subst hW; simp
  replace hx1 := hx1.to HW
  replace hx2 := hx2.to HW
  replace hx3 := hx3.to HW
  rw [← hW]
  clear hW
  replace HW := Lib.hid HW
  go_ret
  rw [E.out, h1]
  exact ⟨by first | rfl | simp, HW.out⟩
/-- 'Zero'. -/
theorem rzero_any (x : Cx) (A1 A2 A3 : Option Addr) (cA1 cA2 cA3 : Nat) (w : World) (hx : Num3C w A1 A2 A3 x) :
    Calls Tryz.prog 47 #[.agg #[.bool (sn (na x)), .slice A1 (ln (ab (na x))) cA1, .bool (sn (nb x)), .slice A2 (ln (ab (nb x))) cA2, .slice A3 (ln (nd x)) cA3]] w (RetBool w (decide (x = Cx.zero))) := by
  cases h : ((ln (ab (na x)) : Int) == 0) with
  | false => exact rzero_0 x A1 A2 A3 cA1 cA2 cA3 w hx h
  | true => exact rzero_1 x A1 A2 A3 cA1 cA2 cA3 w hx h
set_option maxHeartbeats 4000000 in
theorem rcmpz_np (a b : Int) (A B : Option Addr) (cA cB : Nat) (w : World) (hx : Nat32 w A (ab a)) (hy : Nat32 w B (ab b)) (hbx : ln (ab a) ≤ 1099511627776) (hby : ln (ab b) ≤ 1099511627776) (h1 : sn a = true) (h2 : sn b = false) :
    Calls Tryz.prog 110 #[.agg #[.bool true, .slice A (ln (ab a)) cA], .agg #[.bool false, .slice B (ln (ab b)) cB]] w (RetInt w (cmpZ a b)) := by
  have E : Hid (cmpZ a b = -1) := Lib.hid (cmpZ_lt (by unfold sn at h1 h2; simp at h1 h2; omega))
  clear h1 h2
  go_enter Tryz.func110, Tryz.ntmps110
  go_wp2_with fail
  obtain ⟨W, hW⟩ : ∃ W : World, W = ((w.alloc (.cells #[.bool true, .slice A (ln (ab a)) cA] 32)).alloc (.cells #[.bool false, .slice B (ln (ab b)) cB] 32)) := ⟨_, rfl⟩
  have s0_0 : W.cell? ⟨w.heap.size, 0, none⟩ = some (.bool true) := by subst hW; go_simp
  have s0_1 : W.cell? ⟨w.heap.size, 1, none⟩ = some (.slice A (ln (ab a)) cA) := by subst hW; go_simp
  have s1_0 : W.cell? ⟨w.heap.size + 1, 0, none⟩ = some (.bool false) := by subst hW; go_simp
  have s1_1 : W.cell? ⟨w.heap.size + 1, 1, none⟩ = some (.slice B (ln (ab b)) cB) := by subst hW; go_simp
  have HW : Below w.heap.size w W := by subst hW; exact (((Below.refl w.heap.size w).alloc (Nat.le_refl _) _).alloc (by simp) _)
  have l0 : w.heap.size < W.heap.size := by subst hW; simp <;> omega
  have l1 : w.heap.size + 1 < W.heap.size := by subst hW; simp
  replace hx := hx.to HW
  replace hy := hy.to HW
  rw [← hW]
  clear hW
  replace HW := Lib.hid HW
  go_ret
  exact ⟨by rw [E.out]; rfl, HW.out⟩
set_option maxHeartbeats 4000000 in
theorem rcmpz_pn (a b : Int) (A B : Option Addr) (cA cB : Nat) (w : World) (hx : Nat32 w A (ab a)) (hy : Nat32 w B (ab b)) (hbx : ln (ab a) ≤ 1099511627776) (hby : ln (ab b) ≤ 1099511627776) (h1 : sn a = false) (h2 : sn b = true) :
    Calls Tryz.prog 110 #[.agg #[.bool false, .slice A (ln (ab a)) cA], .agg #[.bool true, .slice B (ln (ab b)) cB]] w (RetInt w (cmpZ a b)) := by
  have E : Hid (cmpZ a b = 1) := Lib.hid (cmpZ_gt (by unfold sn at h1 h2; simp at h1 h2; omega))
  clear h1 h2
  go_enter Tryz.func110, Tryz.ntmps110
  go_wp2_with fail
  obtain ⟨W, hW⟩ : ∃ W : World, W = ((w.alloc (.cells #[.bool false, .slice A (ln (ab a)) cA] 32)).alloc (.cells #[.bool true, .slice B (ln (ab b)) cB] 32)) := ⟨_, rfl⟩
  have s0_0 : W.cell? ⟨w.heap.size, 0, none⟩ = some (.bool false) := by subst hW; go_simp
  have s0_1 : W.cell? ⟨w.heap.size, 1, none⟩ = some (.slice A (ln (ab a)) cA) := by subst hW; go_simp
  have s1_0 : W.cell? ⟨w.heap.size + 1, 0, none⟩ = some (.bool true) := by subst hW; go_simp
  have s1_1 : W.cell? ⟨w.heap.size + 1, 1, none⟩ = some (.slice B (ln (ab b)) cB) := by subst hW; go_simp
  have HW : Below w.heap.size w W := by subst hW; exact (((Below.refl w.heap.size w).alloc (Nat.le_refl _) _).alloc (by simp) _)
  have l0 : w.heap.size < W.heap.size := by subst hW; simp <;> omega
  have l1 : w.heap.size + 1 < W.heap.size := by subst hW; simp
  replace hx := hx.to HW
  replace hy := hy.to HW
  rw [← hW]
  clear hW
  replace HW := Lib.hid HW
  go_ret
  exact ⟨by rw [E.out]; rfl, HW.out⟩
set_option maxHeartbeats 4000000 in
theorem rcmpz_nn (a b : Int) (A B : Option Addr) (cA cB : Nat) (w : World) (hx : Nat32 w A (ab a)) (hy : Nat32 w B (ab b)) (hbx : ln (ab a) ≤ 1099511627776) (hby : ln (ab b) ≤ 1099511627776) (h1 : sn a = true) (h2 : sn b = true) :
    Calls Tryz.prog 110 #[.agg #[.bool true, .slice A (ln (ab a)) cA], .agg #[.bool true, .slice B (ln (ab b)) cB]] w (RetInt w (cmpZ a b)) := by
  have E : Hid (cmpZ a b = cmpN (ab b) (ab a)) := Lib.hid (by unfold sn at h1 h2; simp at h1 h2; unfold cmpZ cmpN ab; split <;> split <;> first | rfl | omega | (split <;> first | rfl | omega))
  clear h1 h2
  go_enter Tryz.func110, Tryz.ntmps110
  go_wp2_with fail
  obtain ⟨W, hW⟩ : ∃ W : World, W = ((w.alloc (.cells #[.bool true, .slice A (ln (ab a)) cA] 32)).alloc (.cells #[.bool true, .slice B (ln (ab b)) cB] 32)) := ⟨_, rfl⟩
  have s0_0 : W.cell? ⟨w.heap.size, 0, none⟩ = some (.bool true) := by subst hW; go_simp
  have s0_1 : W.cell? ⟨w.heap.size, 1, none⟩ = some (.slice A (ln (ab a)) cA) := by subst hW; go_simp
  have s1_0 : W.cell? ⟨w.heap.size + 1, 0, none⟩ = some (.bool true) := by subst hW; go_simp
  have s1_1 : W.cell? ⟨w.heap.size + 1, 1, none⟩ = some (.slice B (ln (ab b)) cB) := by subst hW; go_simp
  have HW : Below w.heap.size w W := by subst hW; exact (((Below.refl w.heap.size w).alloc (Nat.le_refl _) _).alloc (by simp) _)
  have l0 : w.heap.size < W.heap.size := by subst hW; simp <;> omega
  have l1 : w.heap.size + 1 < W.heap.size := by subst hW; simp
  replace hx := hx.to HW
  replace hy := hy.to HW
  rw [← hW]
  clear hW
  replace HW := Lib.hid HW
  refine (rcmp_any (ab b) (ab a) B A cB cA _ (by exact hy) (by exact hx) (by omega)).mono ?_
  rintro e w1 ⟨rfl, hb1⟩
  replace s0_0 := keepc hb1 s0_0 l0
  replace s0_1 := keepc hb1 s0_1 l0
  replace s1_0 := keepc hb1 s1_0 l1
  replace s1_1 := keepc hb1 s1_1 l1
  replace l0 := Nat.lt_of_lt_of_le l0 hb1.size
  replace l1 := Nat.lt_of_lt_of_le l1 hb1.size
  replace hx := hx.to hb1
  replace hy := hy.to hb1
  replace HW := Lib.hid (hstep HW hb1)
  clear hb1
  go_wp2_with fail
  go_ret
  exact ⟨by rw [E.out]; rfl, HW.out⟩
set_option maxHeartbeats 4000000 in
theorem rcmpz_pp (a b : Int) (A B : Option Addr) (cA cB : Nat) (w : World) (hx : Nat32 w A (ab a)) (hy : Nat32 w B (ab b)) (hbx : ln (ab a) ≤ 1099511627776) (hby : ln (ab b) ≤ 1099511627776) (h1 : sn a = false) (h2 : sn b = false) :
    Calls Tryz.prog 110 #[.agg #[.bool false, .slice A (ln (ab a)) cA], .agg #[.bool false, .slice B (ln (ab b)) cB]] w (RetInt w (cmpZ a b)) := by
  have E : Hid (cmpZ a b = cmpN (ab a) (ab b)) := Lib.hid (by unfold sn at h1 h2; simp at h1 h2; unfold cmpZ cmpN ab; split <;> split <;> first | rfl | omega | (split <;> first | rfl | omega))
  clear h1 h2
  go_enter Tryz.func110, Tryz.ntmps110
  go_wp2_with fail
  obtain ⟨W, hW⟩ : ∃ W : World, W = ((w.alloc (.cells #[.bool false, .slice A (ln (ab a)) cA] 32)).alloc (.cells #[.bool false, .slice B (ln (ab b)) cB] 32)) := ⟨_, rfl⟩
  have s0_0 : W.cell? ⟨w.heap.size, 0, none⟩ = some (.bool false) := by subst hW; go_simp
  have s0_1 : W.cell? ⟨w.heap.size, 1, none⟩ = some (.slice A (ln (ab a)) cA) := by subst hW; go_simp
  have s1_0 : W.cell? ⟨w.heap.size + 1, 0, none⟩ = some (.bool false) := by subst hW; go_simp
  have s1_1 : W.cell? ⟨w.heap.size + 1, 1, none⟩ = some (.slice B (ln (ab b)) cB) := by subst hW; go_simp
  have HW : Below w.heap.size w W := by subst hW; exact (((Below.refl w.heap.size w).alloc (Nat.le_refl _) _).alloc (by simp) _)
  have l0 : w.heap.size < W.heap.size := by subst hW; simp <;> omega
  have l1 : w.heap.size + 1 < W.heap.size := by subst hW; simp
  replace hx := hx.to HW
  replace hy := hy.to HW
  rw [← hW]
  clear hW
  replace HW := Lib.hid HW
  refine (rcmp_any (ab a) (ab b) A B cA cB _ (by exact hx) (by exact hy) (by omega)).mono ?_
  rintro e w1 ⟨rfl, hb1⟩
  replace s0_0 := keepc hb1 s0_0 l0
  replace s0_1 := keepc hb1 s0_1 l0
  replace s1_0 := keepc hb1 s1_0 l1
  replace s1_1 := keepc hb1 s1_1 l1
  replace l0 := Nat.lt_of_lt_of_le l0 hb1.size
  replace l1 := Nat.lt_of_lt_of_le l1 hb1.size
  replace hx := hx.to hb1
  replace hy := hy.to hb1
  replace HW := Lib.hid (hstep HW hb1)
  clear hb1
  go_wp2_with fail
  go_ret
  exact ⟨by rw [E.out]; rfl, HW.out⟩
/-- 'IntCmp'. -/
theorem rcmpz_any (a b : Int) (A B : Option Addr) (cA cB : Nat) (w : World) (hx : Nat32 w A (ab a)) (hy : Nat32 w B (ab b)) (hbx : ln (ab a) ≤ 1099511627776) (hby : ln (ab b) ≤ 1099511627776) :
    Calls Tryz.prog 110 #[.agg #[.bool (sn (a)), .slice A (ln (ab (a))) cA], .agg #[.bool (sn (b)), .slice B (ln (ab (b))) cB]] w (RetInt w (cmpZ a b)) := by
  cases h1 : sn a with
  | false => cases h2 : sn b with
    | false => exact rcmpz_pp a b A B cA cB w hx hy hbx hby h1 h2
    | true => exact rcmpz_pn a b A B cA cB w hx hy hbx hby h1 h2
  | true => cases h2 : sn b with
    | false => exact rcmpz_np a b A B cA cB w hx hy hbx hby h1 h2
    | true => exact rcmpz_nn a b A B cA cB w hx hy hbx hby h1 h2
set_option maxHeartbeats 4000000 in
theorem rsame_0 (x y : Cx) (A1 A2 A3 B1 B2 B3 : Option Addr) (cA1 cA2 cA3 cB1 cB2 cB3 : Nat) (w : World) (hx : Num3C w A1 A2 A3 x) (hy : Num3C w B1 B2 B3 y) (hsx : sz 137438953472 x) (hsy : sz 137438953472 y) (h1 : na x ≠ na y) :
    Calls Tryz.prog 49 #[.agg #[.bool (sn (na x)), .slice A1 (ln (ab (na x))) cA1, .bool (sn (nb x)), .slice A2 (ln (ab (nb x))) cA2, .slice A3 (ln (nd x)) cA3], .agg #[.bool (sn (na y)), .slice B1 (ln (ab (na y))) cB1, .bool (sn (nb y)), .slice B2 (ln (ab (nb y))) cB2, .slice B3 (ln (nd y)) cB3]] w (RetBool w false) := by
  obtain ⟨hx1, hx2, hx3⟩ := hx
  obtain ⟨hy1, hy2, hy3⟩ := hy
  have HSX := Lib.hid hsx
  clear hsx
  have HSY := Lib.hid hsy
  clear hsy
  have t1 := cmpZ_ne h1
  clear h1
  go_enter Tryz.func49, Tryz.ntmps49
  go_wp2_with fail
  obtain ⟨W, hW⟩ : ∃ W : World, W = ((w.alloc (.cells #[.bool (sn (na x)), .slice A1 (ln (ab (na x))) cA1, .bool (sn (nb x)), .slice A2 (ln (ab (nb x))) cA2, .slice A3 (ln (nd x)) cA3] 34)).alloc (.cells #[.bool (sn (na y)), .slice B1 (ln (ab (na y))) cB1, .bool (sn (nb y)), .slice B2 (ln (ab (nb y))) cB2, .slice B3 (ln (nd y)) cB3] 34)) := ⟨_, rfl⟩
  have s0_0 : W.cell? ⟨w.heap.size, 0, none⟩ = some (.bool (sn (na x))) := by subst hW; go_simp
  have s0_1 : W.cell? ⟨w.heap.size, 1, none⟩ = some (.slice A1 (ln (ab (na x))) cA1) := by subst hW; go_simp
  have s0_2 : W.cell? ⟨w.heap.size, 2, none⟩ = some (.bool (sn (nb x))) := by subst hW; go_simp
  have s0_3 : W.cell? ⟨w.heap.size, 3, none⟩ = some (.slice A2 (ln (ab (nb x))) cA2) := by subst hW; go_simp
  have s0_4 : W.cell? ⟨w.heap.size, 4, none⟩ = some (.slice A3 (ln (nd x)) cA3) := by subst hW; go_simp
  have s1_0 : W.cell? ⟨w.heap.size + 1, 0, none⟩ = some (.bool (sn (na y))) := by subst hW; go_simp
  have s1_1 : W.cell? ⟨w.heap.size + 1, 1, none⟩ = some (.slice B1 (ln (ab (na y))) cB1) := by subst hW; go_simp
  have s1_2 : W.cell? ⟨w.heap.size + 1, 2, none⟩ = some (.bool (sn (nb y))) := by subst hW; go_simp
  have s1_3 : W.cell? ⟨w.heap.size + 1, 3, none⟩ = some (.slice B2 (ln (ab (nb y))) cB2) := by subst hW; go_simp
  have s1_4 : W.cell? ⟨w.heap.size + 1, 4, none⟩ = some (.slice B3 (ln (nd y)) cB3) := by subst hW; go_simp
  have HW : Below w.heap.size w W := by subst hW; exact (((Below.refl w.heap.size w).alloc (Nat.le_refl _) _).alloc (by simp) _)
  have l0 : w.heap.size < W.heap.size := by subst hW; simp <;> omega
  have l1 : w.heap.size + 1 < W.heap.size := by subst hW; simp
  replace hx1 := hx1.to HW
  replace hx2 := hx2.to HW
  replace hx3 := hx3.to HW
  replace hy1 := hy1.to HW
  replace hy2 := hy2.to HW
  replace hy3 := hy3.to HW
  rw [← hW]
  clear hW
  replace HW := Lib.hid HW
  refine (rcmpz_any (na x) (na y) A1 B1 cA1 cB1 _ (by exact hx1) (by exact hy1) (by have := HSX.out; unfold sz at this; omega) (by have := HSY.out; unfold sz at this; omega)).mono ?_
  rintro e w1 ⟨rfl, hb1⟩
  replace s0_0 := keepc hb1 s0_0 l0
  replace s0_1 := keepc hb1 s0_1 l0
  replace s0_2 := keepc hb1 s0_2 l0
  replace s0_3 := keepc hb1 s0_3 l0
  replace s0_4 := keepc hb1 s0_4 l0
  replace s1_0 := keepc hb1 s1_0 l1
  replace s1_1 := keepc hb1 s1_1 l1
  replace s1_2 := keepc hb1 s1_2 l1
  replace s1_3 := keepc hb1 s1_3 l1
  replace s1_4 := keepc hb1 s1_4 l1
  replace l0 := Nat.lt_of_lt_of_le l0 hb1.size
  replace l1 := Nat.lt_of_lt_of_le l1 hb1.size
  replace hx1 := hx1.to hb1
  replace hx2 := hx2.to hb1
  replace hx3 := hx3.to hb1
  replace hy1 := hy1.to hb1
  replace hy2 := hy2.to hb1
  replace hy3 := hy3.to hb1
  replace HW := Lib.hid (hstep HW hb1)
  clear hb1
  go_wp2_with fail
  go_ret
  exact ⟨rfl, HW.out⟩
set_option maxHeartbeats 4000000 in
theorem rsame_1 (x y : Cx) (A1 A2 A3 B1 B2 B3 : Option Addr) (cA1 cA2 cA3 cB1 cB2 cB3 : Nat) (w : World) (hx : Num3C w A1 A2 A3 x) (hy : Num3C w B1 B2 B3 y) (hsx : sz 137438953472 x) (hsy : sz 137438953472 y) (h1 : na x = na y) (h2 : nb x ≠ nb y) :
    Calls Tryz.prog 49 #[.agg #[.bool (sn (na x)), .slice A1 (ln (ab (na x))) cA1, .bool (sn (nb x)), .slice A2 (ln (ab (nb x))) cA2, .slice A3 (ln (nd x)) cA3], .agg #[.bool (sn (na y)), .slice B1 (ln (ab (na y))) cB1, .bool (sn (nb y)), .slice B2 (ln (ab (nb y))) cB2, .slice B3 (ln (nd y)) cB3]] w (RetBool w false) := by
  obtain ⟨hx1, hx2, hx3⟩ := hx
  obtain ⟨hy1, hy2, hy3⟩ := hy
  have HSX := Lib.hid hsx
  clear hsx
  have HSY := Lib.hid hsy
  clear hsy
  have t1 := cmpZ_eq h1
  have t2 := cmpZ_ne h2
  clear h1 h2
  go_enter Tryz.func49, Tryz.ntmps49
  go_wp2_with fail
  obtain ⟨W, hW⟩ : ∃ W : World, W = ((w.alloc (.cells #[.bool (sn (na x)), .slice A1 (ln (ab (na x))) cA1, .bool (sn (nb x)), .slice A2 (ln (ab (nb x))) cA2, .slice A3 (ln (nd x)) cA3] 34)).alloc (.cells #[.bool (sn (na y)), .slice B1 (ln (ab (na y))) cB1, .bool (sn (nb y)), .slice B2 (ln (ab (nb y))) cB2, .slice B3 (ln (nd y)) cB3] 34)) := ⟨_, rfl⟩
  have s0_0 : W.cell? ⟨w.heap.size, 0, none⟩ = some (.bool (sn (na x))) := by subst hW; go_simp
  have s0_1 : W.cell? ⟨w.heap.size, 1, none⟩ = some (.slice A1 (ln (ab (na x))) cA1) := by subst hW; go_simp
  have s0_2 : W.cell? ⟨w.heap.size, 2, none⟩ = some (.bool (sn (nb x))) := by subst hW; go_simp
  have s0_3 : W.cell? ⟨w.heap.size, 3, none⟩ = some (.slice A2 (ln (ab (nb x))) cA2) := by subst hW; go_simp
  have s0_4 : W.cell? ⟨w.heap.size, 4, none⟩ = some (.slice A3 (ln (nd x)) cA3) := by subst hW; go_simp
  have s1_0 : W.cell? ⟨w.heap.size + 1, 0, none⟩ = some (.bool (sn (na y))) := by subst hW; go_simp
  have s1_1 : W.cell? ⟨w.heap.size + 1, 1, none⟩ = some (.slice B1 (ln (ab (na y))) cB1) := by subst hW; go_simp
  have s1_2 : W.cell? ⟨w.heap.size + 1, 2, none⟩ = some (.bool (sn (nb y))) := by subst hW; go_simp
  have s1_3 : W.cell? ⟨w.heap.size + 1, 3, none⟩ = some (.slice B2 (ln (ab (nb y))) cB2) := by subst hW; go_simp
  have s1_4 : W.cell? ⟨w.heap.size + 1, 4, none⟩ = some (.slice B3 (ln (nd y)) cB3) := by subst hW; go_simp
  have HW : Below w.heap.size w W := by subst hW; exact (((Below.refl w.heap.size w).alloc (Nat.le_refl _) _).alloc (by simp) _)
  have l0 : w.heap.size < W.heap.size := by subst hW; simp <;> omega
  have l1 : w.heap.size + 1 < W.heap.size := by subst hW; simp
  replace hx1 := hx1.to HW
  replace hx2 := hx2.to HW
  replace hx3 := hx3.to HW
  replace hy1 := hy1.to HW
  replace hy2 := hy2.to HW
  replace hy3 := hy3.to HW
  rw [← hW]
  clear hW
  replace HW := Lib.hid HW
  refine (rcmpz_any (na x) (na y) A1 B1 cA1 cB1 _ (by exact hx1) (by exact hy1) (by have := HSX.out; unfold sz at this; omega) (by have := HSY.out; unfold sz at this; omega)).mono ?_
  rintro e w1 ⟨rfl, hb1⟩
  replace s0_0 := keepc hb1 s0_0 l0
  replace s0_1 := keepc hb1 s0_1 l0
  replace s0_2 := keepc hb1 s0_2 l0
  replace s0_3 := keepc hb1 s0_3 l0
  replace s0_4 := keepc hb1 s0_4 l0
  replace s1_0 := keepc hb1 s1_0 l1
  replace s1_1 := keepc hb1 s1_1 l1
  replace s1_2 := keepc hb1 s1_2 l1
  replace s1_3 := keepc hb1 s1_3 l1
  replace s1_4 := keepc hb1 s1_4 l1
  replace l0 := Nat.lt_of_lt_of_le l0 hb1.size
  replace l1 := Nat.lt_of_lt_of_le l1 hb1.size
  replace hx1 := hx1.to hb1
  replace hx2 := hx2.to hb1
  replace hx3 := hx3.to hb1
  replace hy1 := hy1.to hb1
  replace hy2 := hy2.to hb1
  replace hy3 := hy3.to hb1
  replace HW := Lib.hid (hstep HW hb1)
  clear hb1
  go_wp2_with fail
  refine (rcmpz_any (nb x) (nb y) A2 B2 cA2 cB2 _ (by exact hx2) (by exact hy2) (by have := HSX.out; unfold sz at this; omega) (by have := HSY.out; unfold sz at this; omega)).mono ?_
  rintro e w2 ⟨rfl, hb2⟩
  replace s0_0 := keepc hb2 s0_0 l0
  replace s0_1 := keepc hb2 s0_1 l0
  replace s0_2 := keepc hb2 s0_2 l0
  replace s0_3 := keepc hb2 s0_3 l0
  replace s0_4 := keepc hb2 s0_4 l0
  replace s1_0 := keepc hb2 s1_0 l1
  replace s1_1 := keepc hb2 s1_1 l1
  replace s1_2 := keepc hb2 s1_2 l1
  replace s1_3 := keepc hb2 s1_3 l1
  replace s1_4 := keepc hb2 s1_4 l1
  replace l0 := Nat.lt_of_lt_of_le l0 hb2.size
  replace l1 := Nat.lt_of_lt_of_le l1 hb2.size
  replace hx1 := hx1.to hb2
  replace hx2 := hx2.to hb2
  replace hx3 := hx3.to hb2
  replace hy1 := hy1.to hb2
  replace hy2 := hy2.to hb2
  replace hy3 := hy3.to hb2
  replace HW := Lib.hid (hstep HW hb2)
  clear hb2
  go_wp2_with fail
  go_ret
  exact ⟨rfl, HW.out⟩
set_option maxHeartbeats 4000000 in
theorem rsame_2 (x y : Cx) (A1 A2 A3 B1 B2 B3 : Option Addr) (cA1 cA2 cA3 cB1 cB2 cB3 : Nat) (w : World) (hx : Num3C w A1 A2 A3 x) (hy : Num3C w B1 B2 B3 y) (hsx : sz 137438953472 x) (hsy : sz 137438953472 y) (h1 : na x = na y) (h2 : nb x = nb y) (h3 : nd x ≠ nd y) :
    Calls Tryz.prog 49 #[.agg #[.bool (sn (na x)), .slice A1 (ln (ab (na x))) cA1, .bool (sn (nb x)), .slice A2 (ln (ab (nb x))) cA2, .slice A3 (ln (nd x)) cA3], .agg #[.bool (sn (na y)), .slice B1 (ln (ab (na y))) cB1, .bool (sn (nb y)), .slice B2 (ln (ab (nb y))) cB2, .slice B3 (ln (nd y)) cB3]] w (RetBool w false) := by
  obtain ⟨hx1, hx2, hx3⟩ := hx
  obtain ⟨hy1, hy2, hy3⟩ := hy
  have HSX := Lib.hid hsx
  clear hsx
  have HSY := Lib.hid hsy
  clear hsy
  have t1 := cmpZ_eq h1
  have t2 := cmpZ_eq h2
  have t3 := cmpN_ne h3
  clear h1 h2 h3
  go_enter Tryz.func49, Tryz.ntmps49
  go_wp2_with fail
  obtain ⟨W, hW⟩ : ∃ W : World, W = ((w.alloc (.cells #[.bool (sn (na x)), .slice A1 (ln (ab (na x))) cA1, .bool (sn (nb x)), .slice A2 (ln (ab (nb x))) cA2, .slice A3 (ln (nd x)) cA3] 34)).alloc (.cells #[.bool (sn (na y)), .slice B1 (ln (ab (na y))) cB1, .bool (sn (nb y)), .slice B2 (ln (ab (nb y))) cB2, .slice B3 (ln (nd y)) cB3] 34)) := ⟨_, rfl⟩
  have s0_0 : W.cell? ⟨w.heap.size, 0, none⟩ = some (.bool (sn (na x))) := by subst hW; go_simp
  have s0_1 : W.cell? ⟨w.heap.size, 1, none⟩ = some (.slice A1 (ln (ab (na x))) cA1) := by subst hW; go_simp
  have s0_2 : W.cell? ⟨w.heap.size, 2, none⟩ = some (.bool (sn (nb x))) := by subst hW; go_simp
  have s0_3 : W.cell? ⟨w.heap.size, 3, none⟩ = some (.slice A2 (ln (ab (nb x))) cA2) := by subst hW; go_simp
  have s0_4 : W.cell? ⟨w.heap.size, 4, none⟩ = some (.slice A3 (ln (nd x)) cA3) := by subst hW; go_simp
  have s1_0 : W.cell? ⟨w.heap.size + 1, 0, none⟩ = some (.bool (sn (na y))) := by subst hW; go_simp
  have s1_1 : W.cell? ⟨w.heap.size + 1, 1, none⟩ = some (.slice B1 (ln (ab (na y))) cB1) := by subst hW; go_simp
  have s1_2 : W.cell? ⟨w.heap.size + 1, 2, none⟩ = some (.bool (sn (nb y))) := by subst hW; go_simp
  have s1_3 : W.cell? ⟨w.heap.size + 1, 3, none⟩ = some (.slice B2 (ln (ab (nb y))) cB2) := by subst hW; go_simp
  have s1_4 : W.cell? ⟨w.heap.size + 1, 4, none⟩ = some (.slice B3 (ln (nd y)) cB3) := by subst hW; go_simp
  have HW : Below w.heap.size w W := by subst hW; exact (((Below.refl w.heap.size w).alloc (Nat.le_refl _) _).alloc (by simp) _)
  have l0 : w.heap.size < W.heap.size := by subst hW; simp <;> omega
  have l1 : w.heap.size + 1 < W.heap.size := by subst hW; simp
  replace hx1 := hx1.to HW
  replace hx2 := hx2.to HW
  replace hx3 := hx3.to HW
  replace hy1 := hy1.to HW
  replace hy2 := hy2.to HW
  replace hy3 := hy3.to HW
  rw [← hW]
  clear hW
  replace HW := Lib.hid HW
  refine (rcmpz_any (na x) (na y) A1 B1 cA1 cB1 _ (by exact hx1) (by exact hy1) (by have := HSX.out; unfold sz at this; omega) (by have := HSY.out; unfold sz at this; omega)).mono ?_
  rintro e w1 ⟨rfl, hb1⟩
  replace s0_0 := keepc hb1 s0_0 l0
  replace s0_1 := keepc hb1 s0_1 l0
  replace s0_2 := keepc hb1 s0_2 l0
  replace s0_3 := keepc hb1 s0_3 l0
  replace s0_4 := keepc hb1 s0_4 l0
  replace s1_0 := keepc hb1 s1_0 l1
  replace s1_1 := keepc hb1 s1_1 l1
  replace s1_2 := keepc hb1 s1_2 l1
  replace s1_3 := keepc hb1 s1_3 l1
  replace s1_4 := keepc hb1 s1_4 l1
  replace l0 := Nat.lt_of_lt_of_le l0 hb1.size
  replace l1 := Nat.lt_of_lt_of_le l1 hb1.size
  replace hx1 := hx1.to hb1
  replace hx2 := hx2.to hb1
  replace hx3 := hx3.to hb1
  replace hy1 := hy1.to hb1
  replace hy2 := hy2.to hb1
  replace hy3 := hy3.to hb1
  replace HW := Lib.hid (hstep HW hb1)
  clear hb1
  go_wp2_with fail
  refine (rcmpz_any (nb x) (nb y) A2 B2 cA2 cB2 _ (by exact hx2) (by exact hy2) (by have := HSX.out; unfold sz at this; omega) (by have := HSY.out; unfold sz at this; omega)).mono ?_
  rintro e w2 ⟨rfl, hb2⟩
  replace s0_0 := keepc hb2 s0_0 l0
  replace s0_1 := keepc hb2 s0_1 l0
  replace s0_2 := keepc hb2 s0_2 l0
  replace s0_3 := keepc hb2 s0_3 l0
  replace s0_4 := keepc hb2 s0_4 l0
  replace s1_0 := keepc hb2 s1_0 l1
  replace s1_1 := keepc hb2 s1_1 l1
  replace s1_2 := keepc hb2 s1_2 l1
  replace s1_3 := keepc hb2 s1_3 l1
  replace s1_4 := keepc hb2 s1_4 l1
  replace l0 := Nat.lt_of_lt_of_le l0 hb2.size
  replace l1 := Nat.lt_of_lt_of_le l1 hb2.size
  replace hx1 := hx1.to hb2
  replace hx2 := hx2.to hb2
  replace hx3 := hx3.to hb2
  replace hy1 := hy1.to hb2
  replace hy2 := hy2.to hb2
  replace hy3 := hy3.to hb2
  replace HW := Lib.hid (hstep HW hb2)
  clear hb2
  go_wp2_with fail
  refine (rcmp_any (nd x) (nd y) A3 B3 cA3 cB3 _ (by exact hx3) (by exact hy3) (by have := HSX.out; unfold sz at this; omega)).mono ?_
  rintro e w3 ⟨rfl, hb3⟩
  replace s0_0 := keepc hb3 s0_0 l0
  replace s0_1 := keepc hb3 s0_1 l0
  replace s0_2 := keepc hb3 s0_2 l0
  replace s0_3 := keepc hb3 s0_3 l0
  replace s0_4 := keepc hb3 s0_4 l0
  replace s1_0 := keepc hb3 s1_0 l1
  replace s1_1 := keepc hb3 s1_1 l1
  replace s1_2 := keepc hb3 s1_2 l1
  replace s1_3 := keepc hb3 s1_3 l1
  replace s1_4 := keepc hb3 s1_4 l1
  replace l0 := Nat.lt_of_lt_of_le l0 hb3.size
  replace l1 := Nat.lt_of_lt_of_le l1 hb3.size
  replace hx1 := hx1.to hb3
  replace hx2 := hx2.to hb3
  replace hx3 := hx3.to hb3
  replace hy1 := hy1.to hb3
  replace hy2 := hy2.to hb3
  replace hy3 := hy3.to hb3
  replace HW := Lib.hid (hstep HW hb3)
  clear hb3
  go_wp2_with fail
  go_ret
  exact ⟨rfl, HW.out⟩
set_option maxHeartbeats 4000000 in
theorem rsame_3 (x y : Cx) (A1 A2 A3 B1 B2 B3 : Option Addr) (cA1 cA2 cA3 cB1 cB2 cB3 : Nat) (w : World) (hx : Num3C w A1 A2 A3 x) (hy : Num3C w B1 B2 B3 y) (hsx : sz 137438953472 x) (hsy : sz 137438953472 y) (h1 : na x = na y) (h2 : nb x = nb y) (h3 : nd x = nd y) :
    Calls Tryz.prog 49 #[.agg #[.bool (sn (na x)), .slice A1 (ln (ab (na x))) cA1, .bool (sn (nb x)), .slice A2 (ln (ab (nb x))) cA2, .slice A3 (ln (nd x)) cA3], .agg #[.bool (sn (na y)), .slice B1 (ln (ab (na y))) cB1, .bool (sn (nb y)), .slice B2 (ln (ab (nb y))) cB2, .slice B3 (ln (nd y)) cB3]] w (RetBool w true) := by
  obtain ⟨hx1, hx2, hx3⟩ := hx
  obtain ⟨hy1, hy2, hy3⟩ := hy
  have HSX := Lib.hid hsx
  clear hsx
  have HSY := Lib.hid hsy
  clear hsy
  have t1 := cmpZ_eq h1
  have t2 := cmpZ_eq h2
  have t3 := cmpN_eq h3
  clear h1 h2 h3
  go_enter Tryz.func49, Tryz.ntmps49
  go_wp2_with fail
  obtain ⟨W, hW⟩ : ∃ W : World, W = ((w.alloc (.cells #[.bool (sn (na x)), .slice A1 (ln (ab (na x))) cA1, .bool (sn (nb x)), .slice A2 (ln (ab (nb x))) cA2, .slice A3 (ln (nd x)) cA3] 34)).alloc (.cells #[.bool (sn (na y)), .slice B1 (ln (ab (na y))) cB1, .bool (sn (nb y)), .slice B2 (ln (ab (nb y))) cB2, .slice B3 (ln (nd y)) cB3] 34)) := ⟨_, rfl⟩
  have s0_0 : W.cell? ⟨w.heap.size, 0, none⟩ = some (.bool (sn (na x))) := by subst hW; go_simp
  have s0_1 : W.cell? ⟨w.heap.size, 1, none⟩ = some (.slice A1 (ln (ab (na x))) cA1) := by subst hW; go_simp
  have s0_2 : W.cell? ⟨w.heap.size, 2, none⟩ = some (.bool (sn (nb x))) := by subst hW; go_simp
  have s0_3 : W.cell? ⟨w.heap.size, 3, none⟩ = some (.slice A2 (ln (ab (nb x))) cA2) := by subst hW; go_simp
  have s0_4 : W.cell? ⟨w.heap.size, 4, none⟩ = some (.slice A3 (ln (nd x)) cA3) := by subst hW; go_simp
  have s1_0 : W.cell? ⟨w.heap.size + 1, 0, none⟩ = some (.bool (sn (na y))) := by subst hW; go_simp
  have s1_1 : W.cell? ⟨w.heap.size + 1, 1, none⟩ = some (.slice B1 (ln (ab (na y))) cB1) := by subst hW; go_simp
  have s1_2 : W.cell? ⟨w.heap.size + 1, 2, none⟩ = some (.bool (sn (nb y))) := by subst hW; go_simp
  have s1_3 : W.cell? ⟨w.heap.size + 1, 3, none⟩ = some (.slice B2 (ln (ab (nb y))) cB2) := by subst hW; go_simp
  have s1_4 : W.cell? ⟨w.heap.size + 1, 4, none⟩ = some (.slice B3 (ln (nd y)) cB3) := by subst hW; go_simp
  have HW : Below w.heap.size w W := by subst hW; exact (((Below.refl w.heap.size w).alloc (Nat.le_refl _) _).alloc (by simp) _)
  have l0 : w.heap.size < W.heap.size := by subst hW; simp <;> omega
  have l1 : w.heap.size + 1 < W.heap.size := by subst hW; simp
  replace hx1 := hx1.to HW
  replace hx2 := hx2.to HW
  replace hx3 := hx3.to HW
  replace hy1 := hy1.to HW
  replace hy2 := hy2.to HW
  replace hy3 := hy3.to HW
  rw [← hW]
  clear hW
  replace HW := Lib.hid HW
  refine (rcmpz_any (na x) (na y) A1 B1 cA1 cB1 _ (by exact hx1) (by exact hy1) (by have := HSX.out; unfold sz at this; omega) (by have := HSY.out; unfold sz at this; omega)).mono ?_
  rintro e w1 ⟨rfl, hb1⟩
  replace s0_0 := keepc hb1 s0_0 l0
  replace s0_1 := keepc hb1 s0_1 l0
  replace s0_2 := keepc hb1 s0_2 l0
  replace s0_3 := keepc hb1 s0_3 l0
  replace s0_4 := keepc hb1 s0_4 l0
  replace s1_0 := keepc hb1 s1_0 l1
  replace s1_1 := keepc hb1 s1_1 l1
  replace s1_2 := keepc hb1 s1_2 l1
  replace s1_3 := keepc hb1 s1_3 l1
  replace s1_4 := keepc hb1 s1_4 l1
  replace l0 := Nat.lt_of_lt_of_le l0 hb1.size
  replace l1 := Nat.lt_of_lt_of_le l1 hb1.size
  replace hx1 := hx1.to hb1
  replace hx2 := hx2.to hb1
  replace hx3 := hx3.to hb1
  replace hy1 := hy1.to hb1
  replace hy2 := hy2.to hb1
  replace hy3 := hy3.to hb1
  replace HW := Lib.hid (hstep HW hb1)
  clear hb1
  go_wp2_with fail
  refine (rcmpz_any (nb x) (nb y) A2 B2 cA2 cB2 _ (by exact hx2) (by exact hy2) (by have := HSX.out; unfold sz at this; omega) (by have := HSY.out; unfold sz at this; omega)).mono ?_
  rintro e w2 ⟨rfl, hb2⟩
  replace s0_0 := keepc hb2 s0_0 l0
  replace s0_1 := keepc hb2 s0_1 l0
  replace s0_2 := keepc hb2 s0_2 l0
  replace s0_3 := keepc hb2 s0_3 l0
  replace s0_4 := keepc hb2 s0_4 l0
  replace s1_0 := keepc hb2 s1_0 l1
  replace s1_1 := keepc hb2 s1_1 l1
  replace s1_2 := keepc hb2 s1_2 l1
  replace s1_3 := keepc hb2 s1_3 l1
  replace s1_4 := keepc hb2 s1_4 l1
  replace l0 := Nat.lt_of_lt_of_le l0 hb2.size
  replace l1 := Nat.lt_of_lt_of_le l1 hb2.size
  replace hx1 := hx1.to hb2
  replace hx2 := hx2.to hb2
  replace hx3 := hx3.to hb2
  replace hy1 := hy1.to hb2
  replace hy2 := hy2.to hb2
  replace hy3 := hy3.to hb2
  replace HW := Lib.hid (hstep HW hb2)
  clear hb2
  go_wp2_with fail
  refine (rcmp_any (nd x) (nd y) A3 B3 cA3 cB3 _ (by exact hx3) (by exact hy3) (by have := HSX.out; unfold sz at this; omega)).mono ?_
  rintro e w3 ⟨rfl, hb3⟩
  replace s0_0 := keepc hb3 s0_0 l0
  replace s0_1 := keepc hb3 s0_1 l0
  replace s0_2 := keepc hb3 s0_2 l0
  replace s0_3 := keepc hb3 s0_3 l0
  replace s0_4 := keepc hb3 s0_4 l0
  replace s1_0 := keepc hb3 s1_0 l1
  replace s1_1 := keepc hb3 s1_1 l1
  replace s1_2 := keepc hb3 s1_2 l1
  replace s1_3 := keepc hb3 s1_3 l1
  replace s1_4 := keepc hb3 s1_4 l1
  replace l0 := Nat.lt_of_lt_of_le l0 hb3.size
  replace l1 := Nat.lt_of_lt_of_le l1 hb3.size
  replace hx1 := hx1.to hb3
  replace hx2 := hx2.to hb3
  replace hx3 := hx3.to hb3
  replace hy1 := hy1.to hb3
  replace hy2 := hy2.to hb3
  replace hy3 := hy3.to hb3
  replace HW := Lib.hid (hstep HW hb3)
  clear hb3
  go_wp2_with fail
  go_ret
  exact ⟨rfl, HW.out⟩
/-- 'Same'. -/
theorem rsame_any (x y : Cx) (A1 A2 A3 B1 B2 B3 : Option Addr) (cA1 cA2 cA3 cB1 cB2 cB3 : Nat) (w : World) (hx : Num3C w A1 A2 A3 x) (hy : Num3C w B1 B2 B3 y) (hsx : sz 137438953472 x) (hsy : sz 137438953472 y) :
    Calls Tryz.prog 49 #[.agg #[.bool (sn (na x)), .slice A1 (ln (ab (na x))) cA1, .bool (sn (nb x)), .slice A2 (ln (ab (nb x))) cA2, .slice A3 (ln (nd x)) cA3], .agg #[.bool (sn (na y)), .slice B1 (ln (ab (na y))) cB1, .bool (sn (nb y)), .slice B2 (ln (ab (nb y))) cB2, .slice B3 (ln (nd y)) cB3]] w (RetBool w (decide (x = y))) := by
  by_cases h1 : na x = na y
  · by_cases h2 : nb x = nb y
    · by_cases h3 : nd x = nd y
      · rw [decide_eq_true (cx_inj h1 h2 h3)]; exact rsame_3 x y A1 A2 A3 B1 B2 B3 cA1 cA2 cA3 cB1 cB2 cB3 w hx hy hsx hsy h1 h2 h3
      · rw [decide_eq_false (fun e => h3 (by rw [e]))]; exact rsame_2 x y A1 A2 A3 B1 B2 B3 cA1 cA2 cA3 cB1 cB2 cB3 w hx hy hsx hsy h1 h2 h3
    · rw [decide_eq_false (fun e => h2 (by rw [e]))]; exact rsame_1 x y A1 A2 A3 B1 B2 B3 cA1 cA2 cA3 cB1 cB2 cB3 w hx hy hsx hsy h1 h2
  · rw [decide_eq_false (fun e => h1 (by rw [e]))]; exact rsame_0 x y A1 A2 A3 B1 B2 B3 cA1 cA2 cA3 cB1 cB2 cB3 w hx hy hsx hsy h1
set_option maxHeartbeats 4000000 in
theorem rsign_n (x : Cx) (A1 A2 A3 : Option Addr) (cA1 cA2 cA3 : Nat) (w : World) (hx : Num3C w A1 A2 A3 x) (h : na x < 0) :
    Calls Tryz.prog 112 #[.agg #[.bool true, .slice A1 (ln (ab (na x))) cA1, .bool (sn (nb x)), .slice A2 (ln (ab (nb x))) cA2, .slice A3 (ln (nd x)) cA3]] w (RetInt w (cmpZ (na x) 0)) := by
  obtain ⟨hx1, hx2, hx3⟩ := hx
  have E : Hid (cmpZ (na x) 0 = -1) := Lib.hid (cmpZ_lt h)
  clear h
  go_enter Tryz.func112, Tryz.ntmps112
  go_wp2_with fail
  obtain ⟨W, hW⟩ : ∃ W : World, W = (w.alloc (.cells #[.bool true, .slice A1 (ln (ab (na x))) cA1, .bool (sn (nb x)), .slice A2 (ln (ab (nb x))) cA2, .slice A3 (ln (nd x)) cA3] 34)) := ⟨_, rfl⟩
  have s0_0 : W.cell? ⟨w.heap.size, 0, none⟩ = some (.bool true) := by subst hW; go_simp
  have s0_1 : W.cell? ⟨w.heap.size, 1, none⟩ = some (.slice A1 (ln (ab (na x))) cA1) := by subst hW; go_simp
  have s0_2 : W.cell? ⟨w.heap.size, 2, none⟩ = some (.bool (sn (nb x))) := by subst hW; go_simp
  have s0_3 : W.cell? ⟨w.heap.size, 3, none⟩ = some (.slice A2 (ln (ab (nb x))) cA2) := by subst hW; go_simp
  have s0_4 : W.cell? ⟨w.heap.size, 4, none⟩ = some (.slice A3 (ln (nd x)) cA3) := by subst hW; go_simp
  have HW : Below w.heap.size w W := by subst hW; exact ((Below.refl w.heap.size w).alloc (Nat.le_refl _) _)
  have l0 : w.heap.size < W.heap.size := by subst hW; simp
  replace hx1 := hx1.to HW
  replace hx2 := hx2.to HW
  replace hx3 := hx3.to HW
  rw [← hW]
  clear hW
  replace HW := Lib.hid HW
  go_ret
  exact ⟨by rw [E.out]; rfl, HW.out⟩
set_option maxHeartbeats 4000000 in
theorem rsign_z (x : Cx) (A1 A2 A3 : Option Addr) (cA1 cA2 cA3 : Nat) (w : World) (hx : Num3C w A1 A2 A3 x) (h : na x = 0) :
    Calls Tryz.prog 112 #[.agg #[.bool false, .slice A1 (ln (ab (na x))) cA1, .bool (sn (nb x)), .slice A2 (ln (ab (nb x))) cA2, .slice A3 (ln (nd x)) cA3]] w (RetInt w (cmpZ (na x) 0)) := by
  obtain ⟨hx1, hx2, hx3⟩ := hx
  have E : Hid (cmpZ (na x) 0 = 0) := Lib.hid (cmpZ_eq h)
  have t2 : decide (0 < ln (ab (na x))) = false := by rw [h, show ab 0 = 0 from rfl, ln_zero]; rfl
  clear h
  go_enter Tryz.func112, Tryz.ntmps112
  go_wp2_with fail
  obtain ⟨W, hW⟩ : ∃ W : World, W = (w.alloc (.cells #[.bool false, .slice A1 (ln (ab (na x))) cA1, .bool (sn (nb x)), .slice A2 (ln (ab (nb x))) cA2, .slice A3 (ln (nd x)) cA3] 34)) := ⟨_, rfl⟩
  have s0_0 : W.cell? ⟨w.heap.size, 0, none⟩ = some (.bool false) := by subst hW; go_simp
  have s0_1 : W.cell? ⟨w.heap.size, 1, none⟩ = some (.slice A1 (ln (ab (na x))) cA1) := by subst hW; go_simp
  have s0_2 : W.cell? ⟨w.heap.size, 2, none⟩ = some (.bool (sn (nb x))) := by subst hW; go_simp
  have s0_3 : W.cell? ⟨w.heap.size, 3, none⟩ = some (.slice A2 (ln (ab (nb x))) cA2) := by subst hW; go_simp
  have s0_4 : W.cell? ⟨w.heap.size, 4, none⟩ = some (.slice A3 (ln (nd x)) cA3) := by subst hW; go_simp
  have HW : Below w.heap.size w W := by subst hW; exact ((Below.refl w.heap.size w).alloc (Nat.le_refl _) _)
  have l0 : w.heap.size < W.heap.size := by subst hW; simp
  replace hx1 := hx1.to HW
  replace hx2 := hx2.to HW
  replace hx3 := hx3.to HW
  rw [← hW]
  clear hW
  replace HW := Lib.hid HW
  go_ret
  exact ⟨by rw [E.out]; rfl, HW.out⟩
set_option maxHeartbeats 4000000 in
theorem rsign_p (x : Cx) (A1 A2 A3 : Option Addr) (cA1 cA2 cA3 : Nat) (w : World) (hx : Num3C w A1 A2 A3 x) (h : 0 < na x) :
    Calls Tryz.prog 112 #[.agg #[.bool false, .slice A1 (ln (ab (na x))) cA1, .bool (sn (nb x)), .slice A2 (ln (ab (nb x))) cA2, .slice A3 (ln (nd x)) cA3]] w (RetInt w (cmpZ (na x) 0)) := by
  obtain ⟨hx1, hx2, hx3⟩ := hx
  have E : Hid (cmpZ (na x) 0 = 1) := Lib.hid (cmpZ_gt h)
  have t2 : decide (0 < ln (ab (na x))) = true := decide_eq_true (ln_pos (by unfold ab; omega))
  clear h
  go_enter Tryz.func112, Tryz.ntmps112
  go_wp2_with fail
  obtain ⟨W, hW⟩ : ∃ W : World, W = (w.alloc (.cells #[.bool false, .slice A1 (ln (ab (na x))) cA1, .bool (sn (nb x)), .slice A2 (ln (ab (nb x))) cA2, .slice A3 (ln (nd x)) cA3] 34)) := ⟨_, rfl⟩
  have s0_0 : W.cell? ⟨w.heap.size, 0, none⟩ = some (.bool false) := by subst hW; go_simp
  have s0_1 : W.cell? ⟨w.heap.size, 1, none⟩ = some (.slice A1 (ln (ab (na x))) cA1) := by subst hW; go_simp
  have s0_2 : W.cell? ⟨w.heap.size, 2, none⟩ = some (.bool (sn (nb x))) := by subst hW; go_simp
  have s0_3 : W.cell? ⟨w.heap.size, 3, none⟩ = some (.slice A2 (ln (ab (nb x))) cA2) := by subst hW; go_simp
  have s0_4 : W.cell? ⟨w.heap.size, 4, none⟩ = some (.slice A3 (ln (nd x)) cA3) := by subst hW; go_simp
  have HW : Below w.heap.size w W := by subst hW; exact ((Below.refl w.heap.size w).alloc (Nat.le_refl _) _)
  have l0 : w.heap.size < W.heap.size := by subst hW; simp
  replace hx1 := hx1.to HW
  replace hx2 := hx2.to HW
  replace hx3 := hx3.to HW
  rw [← hW]
  clear hW
  replace HW := Lib.hid HW
  go_ret
  exact ⟨by rw [E.out]; rfl, HW.out⟩
/-- 'Sign'. -/
theorem rsign_any (x : Cx) (A1 A2 A3 : Option Addr) (cA1 cA2 cA3 : Nat) (w : World) (hx : Num3C w A1 A2 A3 x) :
    Calls Tryz.prog 112 #[.agg #[.bool (sn (na x)), .slice A1 (ln (ab (na x))) cA1, .bool (sn (nb x)), .slice A2 (ln (ab (nb x))) cA2, .slice A3 (ln (nd x)) cA3]] w (RetInt w (cmpZ (na x) 0)) := by
  rcases Int.lt_trichotomy (na x) 0 with h | h | h
  · rw [show sn (na x) = true by unfold sn; exact decide_eq_true h]; exact rsign_n x A1 A2 A3 cA1 cA2 cA3 w hx h
  · rw [show sn (na x) = false by unfold sn; exact decide_eq_false (by omega)]; exact rsign_z x A1 A2 A3 cA1 cA2 cA3 w hx h
  · rw [show sn (na x) = false by unfold sn; exact decide_eq_false (by omega)]; exact rsign_p x A1 A2 A3 cA1 cA2 cA3 w hx h
theorem sign_im (x : Cx) : cmpZ (na x.imOf) 0 = cmpZ (nb x) 0 := by
  have h1 := cmpZ_cross (a := na x.imOf) (b := 0) (d := nd x.imOf) (e := 1) (r := x.im) (s := 0) (nd_pos _) (by omega) (na_eq x.imOf) (by simp)
  have h2 := cmpZ_cross (a := nb x) (b := 0) (d := nd x) (e := 1) (r := x.im) (s := 0) (nd_pos x) (by omega) (nb_eq x) (by simp)
  simp at h1 h2
  rw [h1, h2]
theorem sign_re (x : Cx) : cmpZ (na x) 0 = cmpR x.re 0 := by
  have h1 := cmpZ_cross (a := na x) (b := 0) (d := nd x) (e := 1) (r := x.re) (s := 0) (nd_pos _) (by omega) (na_eq x) (by simp)
  simpa using h1
theorem sign_nb (x : Cx) : cmpZ (nb x) 0 = cmpR x.im 0 := by
  have h1 := cmpZ_cross (a := nb x) (b := 0) (d := nd x) (e := 1) (r := x.im) (s := 0) (nd_pos _) (by omega) (nb_eq x) (by simp)
  simpa using h1
theorem cmpR_sub (r s : Rat) : cmpR (r + -s) 0 = cmpR r s := by unfold cmpR; grind
theorem cmpC_sub (x y : Cx) : cmpC x y = if cmpZ (na (x.sub y)) 0 = 0 then cmpZ (nb (x.sub y)) 0 else cmpZ (na (x.sub y)) 0 := by
  rw [sign_re, sign_nb, cmpC_rat]
  show _ = if cmpR (x.re + -y.re) 0 = 0 then cmpR (x.im + -y.im) 0 else cmpR (x.re + -y.re) 0
  rw [cmpR_sub, cmpR_sub]
  unfold cmpR; grind
set_option maxHeartbeats 4000000 in
theorem rside_any (x : Cx) (A1 A2 A3 : Option Addr) (cA1 cA2 cA3 : Nat) (w : World) (hx : Num3C w A1 A2 A3 x) (hsx : sz 137438953472 x) :
    Calls Tryz.prog 53 #[.agg #[.bool (sn (na x)), .slice A1 (ln (ab (na x))) cA1, .bool (sn (nb x)), .slice A2 (ln (ab (nb x))) cA2, .slice A3 (ln (nd x)) cA3]] w (RetInt w (cmpZ (nb x) 0)) := by
  obtain ⟨hx1, hx2, hx3⟩ := hx
  have HSX := Lib.hid hsx
  clear hsx
  rw [← sign_im]
  go_enter Tryz.func53, Tryz.ntmps53
  go_wp2_with fail
  obtain ⟨W, hW⟩ : ∃ W : World, W = (w.alloc (.cells #[.bool (sn (na x)), .slice A1 (ln (ab (na x))) cA1, .bool (sn (nb x)), .slice A2 (ln (ab (nb x))) cA2, .slice A3 (ln (nd x)) cA3] 34)) := ⟨_, rfl⟩
  have s0_0 : W.cell? ⟨w.heap.size, 0, none⟩ = some (.bool (sn (na x))) := by subst hW; go_simp
  have s0_1 : W.cell? ⟨w.heap.size, 1, none⟩ = some (.slice A1 (ln (ab (na x))) cA1) := by subst hW; go_simp
  have s0_2 : W.cell? ⟨w.heap.size, 2, none⟩ = some (.bool (sn (nb x))) := by subst hW; go_simp
  have s0_3 : W.cell? ⟨w.heap.size, 3, none⟩ = some (.slice A2 (ln (ab (nb x))) cA2) := by subst hW; go_simp
  have s0_4 : W.cell? ⟨w.heap.size, 4, none⟩ = some (.slice A3 (ln (nd x)) cA3) := by subst hW; go_simp
  have HW : Below w.heap.size w W := by subst hW; exact ((Below.refl w.heap.size w).alloc (Nat.le_refl _) _)
  have l0 : w.heap.size < W.heap.size := by subst hW; simp
  replace hx1 := hx1.to HW
  replace hx2 := hx2.to HW
  replace hx3 := hx3.to HW
  rw [← hW]
  clear hW
  replace HW := Lib.hid HW
  refine (rim_num x A1 A2 A3 cA1 cA2 cA3 _ (by exact Num3C.mk' hx1 hx2 hx3) HSX.out).mono ?_
  rintro e w1 ⟨M1, M2, M3, cM1, cM2, cM3, rfl, h1, hb1⟩
  replace s0_0 := keepc hb1 s0_0 l0
  replace s0_1 := keepc hb1 s0_1 l0
  replace s0_2 := keepc hb1 s0_2 l0
  replace s0_3 := keepc hb1 s0_3 l0
  replace s0_4 := keepc hb1 s0_4 l0
  replace l0 := Nat.lt_of_lt_of_le l0 hb1.size
  replace hx1 := hx1.to hb1
  replace hx2 := hx2.to hb1
  replace hx3 := hx3.to hb1
  replace HW := Lib.hid (hstep HW hb1)
  clear hb1
  go_wp2_with fail
  refine (rsign_any x.imOf M1 M2 M3 cM1 cM2 cM3 _ (by exact h1)).mono ?_
  rintro e w2 ⟨rfl, hb2⟩
  replace s0_0 := keepc hb2 s0_0 l0
  replace s0_1 := keepc hb2 s0_1 l0
  replace s0_2 := keepc hb2 s0_2 l0
  replace s0_3 := keepc hb2 s0_3 l0
  replace s0_4 := keepc hb2 s0_4 l0
  replace l0 := Nat.lt_of_lt_of_le l0 hb2.size
  replace hx1 := hx1.to hb2
  replace hx2 := hx2.to hb2
  replace hx3 := hx3.to hb2
  replace h1 := h1.to hb2
  replace HW := Lib.hid (hstep HW hb2)
  clear hb2
  go_wp2_with fail
  go_ret
  exact ⟨rfl, HW.out⟩
set_option maxHeartbeats 4000000 in
theorem rcmpq_ne (x y : Cx) (A1 A2 A3 B1 B2 B3 : Option Addr) (cA1 cA2 cA3 cB1 cB2 cB3 : Nat) (w : World) (hx : Num3C w A1 A2 A3 x) (hy : Num3C w B1 B2 B3 y) (hsx : sz 137438953472 x) (hsy : sz 137438953472 y) (h : cmpZ (na (x.sub y)) 0 ≠ 0) :
    Calls Tryz.prog 51 #[.agg #[.bool (sn (na x)), .slice A1 (ln (ab (na x))) cA1, .bool (sn (nb x)), .slice A2 (ln (ab (nb x))) cA2, .slice A3 (ln (nd x)) cA3], .agg #[.bool (sn (na y)), .slice B1 (ln (ab (na y))) cB1, .bool (sn (nb y)), .slice B2 (ln (ab (nb y))) cB2, .slice B3 (ln (nd y)) cB3]] w (RetInt w (cmpC x y)) := by
  obtain ⟨hx1, hx2, hx3⟩ := hx
  obtain ⟨hy1, hy2, hy3⟩ := hy
  have HSD := Lib.hid (sz_sub hsx hsy)
  have HSX := Lib.hid hsx
  clear hsx
  have HSY := Lib.hid hsy
  clear hsy
  have E : Hid (cmpC x y = cmpZ (na (x.sub y)) 0) := Lib.hid (by rw [cmpC_sub, if_neg h])
  have t : (cmpZ (na (x.sub y)) 0 != 0) = true := by simpa using h
  have t2 : (cmpZ (na (x.sub y)) 0 == 0) = false := by simpa using h
  clear h
  go_enter Tryz.func51, Tryz.ntmps51
  go_wp2_with fail
  obtain ⟨W, hW⟩ : ∃ W : World, W = ((w.alloc (.cells #[.bool (sn (na x)), .slice A1 (ln (ab (na x))) cA1, .bool (sn (nb x)), .slice A2 (ln (ab (nb x))) cA2, .slice A3 (ln (nd x)) cA3] 34)).alloc (.cells #[.bool (sn (na y)), .slice B1 (ln (ab (na y))) cB1, .bool (sn (nb y)), .slice B2 (ln (ab (nb y))) cB2, .slice B3 (ln (nd y)) cB3] 34)) := ⟨_, rfl⟩
  have s0_0 : W.cell? ⟨w.heap.size, 0, none⟩ = some (.bool (sn (na x))) := by subst hW; go_simp
  have s0_1 : W.cell? ⟨w.heap.size, 1, none⟩ = some (.slice A1 (ln (ab (na x))) cA1) := by subst hW; go_simp
  have s0_2 : W.cell? ⟨w.heap.size, 2, none⟩ = some (.bool (sn (nb x))) := by subst hW; go_simp
  have s0_3 : W.cell? ⟨w.heap.size, 3, none⟩ = some (.slice A2 (ln (ab (nb x))) cA2) := by subst hW; go_simp
  have s0_4 : W.cell? ⟨w.heap.size, 4, none⟩ = some (.slice A3 (ln (nd x)) cA3) := by subst hW; go_simp
  have s1_0 : W.cell? ⟨w.heap.size + 1, 0, none⟩ = some (.bool (sn (na y))) := by subst hW; go_simp
  have s1_1 : W.cell? ⟨w.heap.size + 1, 1, none⟩ = some (.slice B1 (ln (ab (na y))) cB1) := by subst hW; go_simp
  have s1_2 : W.cell? ⟨w.heap.size + 1, 2, none⟩ = some (.bool (sn (nb y))) := by subst hW; go_simp
  have s1_3 : W.cell? ⟨w.heap.size + 1, 3, none⟩ = some (.slice B2 (ln (ab (nb y))) cB2) := by subst hW; go_simp
  have s1_4 : W.cell? ⟨w.heap.size + 1, 4, none⟩ = some (.slice B3 (ln (nd y)) cB3) := by subst hW; go_simp
  have HW : Below w.heap.size w W := by subst hW; exact (((Below.refl w.heap.size w).alloc (Nat.le_refl _) _).alloc (by simp) _)
  have l0 : w.heap.size < W.heap.size := by subst hW; simp <;> omega
  have l1 : w.heap.size + 1 < W.heap.size := by subst hW; simp
  replace hx1 := hx1.to HW
  replace hx2 := hx2.to HW
  replace hx3 := hx3.to HW
  replace hy1 := hy1.to HW
  replace hy2 := hy2.to HW
  replace hy3 := hy3.to HW
  rw [← hW]
  clear hW
  replace HW := Lib.hid HW
  refine (rsub_num x y A1 A2 A3 B1 B2 B3 cA1 cA2 cA3 cB1 cB2 cB3 _ (by exact Num3C.mk' hx1 hx2 hx3) (by exact Num3C.mk' hy1 hy2 hy3) HSX.out HSY.out).mono ?_
  rintro e w1 ⟨M1, M2, M3, cM1, cM2, cM3, rfl, h1, hb1⟩
  replace s0_0 := keepc hb1 s0_0 l0
  replace s0_1 := keepc hb1 s0_1 l0
  replace s0_2 := keepc hb1 s0_2 l0
  replace s0_3 := keepc hb1 s0_3 l0
  replace s0_4 := keepc hb1 s0_4 l0
  replace s1_0 := keepc hb1 s1_0 l1
  replace s1_1 := keepc hb1 s1_1 l1
  replace s1_2 := keepc hb1 s1_2 l1
  replace s1_3 := keepc hb1 s1_3 l1
  replace s1_4 := keepc hb1 s1_4 l1
  replace l0 := Nat.lt_of_lt_of_le l0 hb1.size
  replace l1 := Nat.lt_of_lt_of_le l1 hb1.size
  replace hx1 := hx1.to hb1
  replace hx2 := hx2.to hb1
  replace hx3 := hx3.to hb1
  replace hy1 := hy1.to hb1
  replace hy2 := hy2.to hb1
  replace hy3 := hy3.to hb1
  replace HW := Lib.hid (hstep HW hb1)
  clear hb1
  go_wp2_with fail
  obtain ⟨w2, hX⟩ : ∃ X : World, X = w1.alloc (.cells #[.bool (sn (na (x.sub y))), .slice M1 (ln (ab (na (x.sub y)))) cM1, .bool (sn (nb (x.sub y))), .slice M2 (ln (ab (nb (x.sub y)))) cM2, .slice M3 (ln (nd (x.sub y))) cM3] 34) := ⟨_, rfl⟩
  rw [← hX]
  have hb2 : Below w1.heap.size w1 w2 := by subst hX; exact (Below.refl _ _).alloc (Nat.le_refl _) _
  have t0_0 : w2.cell? ⟨w1.heap.size, 0, none⟩ = some (.bool (sn (na (x.sub y)))) := by subst hX; go_simp
  have t0_1 : w2.cell? ⟨w1.heap.size, 1, none⟩ = some (.slice M1 (ln (ab (na (x.sub y)))) cM1) := by subst hX; go_simp
  have t0_2 : w2.cell? ⟨w1.heap.size, 2, none⟩ = some (.bool (sn (nb (x.sub y)))) := by subst hX; go_simp
  have t0_3 : w2.cell? ⟨w1.heap.size, 3, none⟩ = some (.slice M2 (ln (ab (nb (x.sub y)))) cM2) := by subst hX; go_simp
  have t0_4 : w2.cell? ⟨w1.heap.size, 4, none⟩ = some (.slice M3 (ln (nd (x.sub y))) cM3) := by subst hX; go_simp
  have l100 : w1.heap.size < w2.heap.size := by subst hX; simp
  clear hX
  replace s0_0 := keepc hb2 s0_0 l0
  replace s0_1 := keepc hb2 s0_1 l0
  replace s0_2 := keepc hb2 s0_2 l0
  replace s0_3 := keepc hb2 s0_3 l0
  replace s0_4 := keepc hb2 s0_4 l0
  replace s1_0 := keepc hb2 s1_0 l1
  replace s1_1 := keepc hb2 s1_1 l1
  replace s1_2 := keepc hb2 s1_2 l1
  replace s1_3 := keepc hb2 s1_3 l1
  replace s1_4 := keepc hb2 s1_4 l1
  replace l0 := Nat.lt_of_lt_of_le l0 hb2.size
  replace l1 := Nat.lt_of_lt_of_le l1 hb2.size
  replace hx1 := hx1.to hb2
  replace hx2 := hx2.to hb2
  replace hx3 := hx3.to hb2
  replace hy1 := hy1.to hb2
  replace hy2 := hy2.to hb2
  replace hy3 := hy3.to hb2
  replace h1 := h1.to hb2
  replace HW := Lib.hid (hstep HW hb2)
  clear hb2
  obtain ⟨g0, hg0⟩ : ∃ p, p = w1.heap.size := ⟨_, rfl⟩
  rw [← hg0] at t0_0 t0_1 t0_2 t0_3 t0_4 l100 ⊢
  clear hg0
  refine (rsign_any (x.sub y) M1 M2 M3 cM1 cM2 cM3 _ (by exact h1)).mono ?_
  rintro e w3 ⟨rfl, hb3⟩
  replace s0_0 := keepc hb3 s0_0 l0
  replace s0_1 := keepc hb3 s0_1 l0
  replace s0_2 := keepc hb3 s0_2 l0
  replace s0_3 := keepc hb3 s0_3 l0
  replace s0_4 := keepc hb3 s0_4 l0
  replace s1_0 := keepc hb3 s1_0 l1
  replace s1_1 := keepc hb3 s1_1 l1
  replace s1_2 := keepc hb3 s1_2 l1
  replace s1_3 := keepc hb3 s1_3 l1
  replace s1_4 := keepc hb3 s1_4 l1
  replace t0_0 := keepc hb3 t0_0 l100
  replace t0_1 := keepc hb3 t0_1 l100
  replace t0_2 := keepc hb3 t0_2 l100
  replace t0_3 := keepc hb3 t0_3 l100
  replace t0_4 := keepc hb3 t0_4 l100
  replace l0 := Nat.lt_of_lt_of_le l0 hb3.size
  replace l1 := Nat.lt_of_lt_of_le l1 hb3.size
  replace l100 := Nat.lt_of_lt_of_le l100 hb3.size
  replace hx1 := hx1.to hb3
  replace hx2 := hx2.to hb3
  replace hx3 := hx3.to hb3
  replace hy1 := hy1.to hb3
  replace hy2 := hy2.to hb3
  replace hy3 := hy3.to hb3
  replace h1 := h1.to hb3
  replace HW := Lib.hid (hstep HW hb3)
  clear hb3
  go_wp2_with fail
  go_ret
  exact ⟨by rw [E.out]; rfl, HW.out⟩
set_option maxHeartbeats 4000000 in
theorem rcmpq_eq (x y : Cx) (A1 A2 A3 B1 B2 B3 : Option Addr) (cA1 cA2 cA3 cB1 cB2 cB3 : Nat) (w : World) (hx : Num3C w A1 A2 A3 x) (hy : Num3C w B1 B2 B3 y) (hsx : sz 137438953472 x) (hsy : sz 137438953472 y) (h : cmpZ (na (x.sub y)) 0 = 0) :
    Calls Tryz.prog 51 #[.agg #[.bool (sn (na x)), .slice A1 (ln (ab (na x))) cA1, .bool (sn (nb x)), .slice A2 (ln (ab (nb x))) cA2, .slice A3 (ln (nd x)) cA3], .agg #[.bool (sn (na y)), .slice B1 (ln (ab (na y))) cB1, .bool (sn (nb y)), .slice B2 (ln (ab (nb y))) cB2, .slice B3 (ln (nd y)) cB3]] w (RetInt w (cmpC x y)) := by
  obtain ⟨hx1, hx2, hx3⟩ := hx
  obtain ⟨hy1, hy2, hy3⟩ := hy
  have HSD := Lib.hid (sz_sub hsx hsy)
  have HSX := Lib.hid hsx
  clear hsx
  have HSY := Lib.hid hsy
  clear hsy
  have E : Hid (cmpC x y = cmpZ (na (x.sub y).imOf) 0) := Lib.hid (by rw [cmpC_sub, if_pos h, sign_im])
  go_enter Tryz.func51, Tryz.ntmps51
  go_wp2_with fail
  obtain ⟨W, hW⟩ : ∃ W : World, W = ((w.alloc (.cells #[.bool (sn (na x)), .slice A1 (ln (ab (na x))) cA1, .bool (sn (nb x)), .slice A2 (ln (ab (nb x))) cA2, .slice A3 (ln (nd x)) cA3] 34)).alloc (.cells #[.bool (sn (na y)), .slice B1 (ln (ab (na y))) cB1, .bool (sn (nb y)), .slice B2 (ln (ab (nb y))) cB2, .slice B3 (ln (nd y)) cB3] 34)) := ⟨_, rfl⟩
  have s0_0 : W.cell? ⟨w.heap.size, 0, none⟩ = some (.bool (sn (na x))) := by subst hW; go_simp
  have s0_1 : W.cell? ⟨w.heap.size, 1, none⟩ = some (.slice A1 (ln (ab (na x))) cA1) := by subst hW; go_simp
  have s0_2 : W.cell? ⟨w.heap.size, 2, none⟩ = some (.bool (sn (nb x))) := by subst hW; go_simp
  have s0_3 : W.cell? ⟨w.heap.size, 3, none⟩ = some (.slice A2 (ln (ab (nb x))) cA2) := by subst hW; go_simp
  have s0_4 : W.cell? ⟨w.heap.size, 4, none⟩ = some (.slice A3 (ln (nd x)) cA3) := by subst hW; go_simp
  have s1_0 : W.cell? ⟨w.heap.size + 1, 0, none⟩ = some (.bool (sn (na y))) := by subst hW; go_simp
  have s1_1 : W.cell? ⟨w.heap.size + 1, 1, none⟩ = some (.slice B1 (ln (ab (na y))) cB1) := by subst hW; go_simp
  have s1_2 : W.cell? ⟨w.heap.size + 1, 2, none⟩ = some (.bool (sn (nb y))) := by subst hW; go_simp
  have s1_3 : W.cell? ⟨w.heap.size + 1, 3, none⟩ = some (.slice B2 (ln (ab (nb y))) cB2) := by subst hW; go_simp
  have s1_4 : W.cell? ⟨w.heap.size + 1, 4, none⟩ = some (.slice B3 (ln (nd y)) cB3) := by subst hW; go_simp
  have HW : Below w.heap.size w W := by subst hW; exact (((Below.refl w.heap.size w).alloc (Nat.le_refl _) _).alloc (by simp) _)
  have l0 : w.heap.size < W.heap.size := by subst hW; simp <;> omega
  have l1 : w.heap.size + 1 < W.heap.size := by subst hW; simp
  replace hx1 := hx1.to HW
  replace hx2 := hx2.to HW
  replace hx3 := hx3.to HW
  replace hy1 := hy1.to HW
  replace hy2 := hy2.to HW
  replace hy3 := hy3.to HW
  rw [← hW]
  clear hW
  replace HW := Lib.hid HW
  refine (rsub_num x y A1 A2 A3 B1 B2 B3 cA1 cA2 cA3 cB1 cB2 cB3 _ (by exact Num3C.mk' hx1 hx2 hx3) (by exact Num3C.mk' hy1 hy2 hy3) HSX.out HSY.out).mono ?_
  rintro e w1 ⟨M1, M2, M3, cM1, cM2, cM3, rfl, h1, hb1⟩
  replace s0_0 := keepc hb1 s0_0 l0
  replace s0_1 := keepc hb1 s0_1 l0
  replace s0_2 := keepc hb1 s0_2 l0
  replace s0_3 := keepc hb1 s0_3 l0
  replace s0_4 := keepc hb1 s0_4 l0
  replace s1_0 := keepc hb1 s1_0 l1
  replace s1_1 := keepc hb1 s1_1 l1
  replace s1_2 := keepc hb1 s1_2 l1
  replace s1_3 := keepc hb1 s1_3 l1
  replace s1_4 := keepc hb1 s1_4 l1
  replace l0 := Nat.lt_of_lt_of_le l0 hb1.size
  replace l1 := Nat.lt_of_lt_of_le l1 hb1.size
  replace hx1 := hx1.to hb1
  replace hx2 := hx2.to hb1
  replace hx3 := hx3.to hb1
  replace hy1 := hy1.to hb1
  replace hy2 := hy2.to hb1
  replace hy3 := hy3.to hb1
  replace HW := Lib.hid (hstep HW hb1)
  clear hb1
  go_wp2_with fail
  obtain ⟨w2, hX⟩ : ∃ X : World, X = w1.alloc (.cells #[.bool (sn (na (x.sub y))), .slice M1 (ln (ab (na (x.sub y)))) cM1, .bool (sn (nb (x.sub y))), .slice M2 (ln (ab (nb (x.sub y)))) cM2, .slice M3 (ln (nd (x.sub y))) cM3] 34) := ⟨_, rfl⟩
  rw [← hX]
  have hb2 : Below w1.heap.size w1 w2 := by subst hX; exact (Below.refl _ _).alloc (Nat.le_refl _) _
  have t0_0 : w2.cell? ⟨w1.heap.size, 0, none⟩ = some (.bool (sn (na (x.sub y)))) := by subst hX; go_simp
  have t0_1 : w2.cell? ⟨w1.heap.size, 1, none⟩ = some (.slice M1 (ln (ab (na (x.sub y)))) cM1) := by subst hX; go_simp
  have t0_2 : w2.cell? ⟨w1.heap.size, 2, none⟩ = some (.bool (sn (nb (x.sub y)))) := by subst hX; go_simp
  have t0_3 : w2.cell? ⟨w1.heap.size, 3, none⟩ = some (.slice M2 (ln (ab (nb (x.sub y)))) cM2) := by subst hX; go_simp
  have t0_4 : w2.cell? ⟨w1.heap.size, 4, none⟩ = some (.slice M3 (ln (nd (x.sub y))) cM3) := by subst hX; go_simp
  have l100 : w1.heap.size < w2.heap.size := by subst hX; simp
  clear hX
  replace s0_0 := keepc hb2 s0_0 l0
  replace s0_1 := keepc hb2 s0_1 l0
  replace s0_2 := keepc hb2 s0_2 l0
  replace s0_3 := keepc hb2 s0_3 l0
  replace s0_4 := keepc hb2 s0_4 l0
  replace s1_0 := keepc hb2 s1_0 l1
  replace s1_1 := keepc hb2 s1_1 l1
  replace s1_2 := keepc hb2 s1_2 l1
  replace s1_3 := keepc hb2 s1_3 l1
  replace s1_4 := keepc hb2 s1_4 l1
  replace l0 := Nat.lt_of_lt_of_le l0 hb2.size
  replace l1 := Nat.lt_of_lt_of_le l1 hb2.size
  replace hx1 := hx1.to hb2
  replace hx2 := hx2.to hb2
  replace hx3 := hx3.to hb2
  replace hy1 := hy1.to hb2
  replace hy2 := hy2.to hb2
  replace hy3 := hy3.to hb2
  replace h1 := h1.to hb2
  replace HW := Lib.hid (hstep HW hb2)
  clear hb2
  obtain ⟨g0, hg0⟩ : ∃ p, p = w1.heap.size := ⟨_, rfl⟩
  rw [← hg0] at t0_0 t0_1 t0_2 t0_3 t0_4 l100 ⊢
  clear hg0
  refine (rsign_any (x.sub y) M1 M2 M3 cM1 cM2 cM3 _ (by exact h1)).mono ?_
  rintro e w3 ⟨rfl, hb3⟩
  replace s0_0 := keepc hb3 s0_0 l0
  replace s0_1 := keepc hb3 s0_1 l0
  replace s0_2 := keepc hb3 s0_2 l0
  replace s0_3 := keepc hb3 s0_3 l0
  replace s0_4 := keepc hb3 s0_4 l0
  replace s1_0 := keepc hb3 s1_0 l1
  replace s1_1 := keepc hb3 s1_1 l1
  replace s1_2 := keepc hb3 s1_2 l1
  replace s1_3 := keepc hb3 s1_3 l1
  replace s1_4 := keepc hb3 s1_4 l1
  replace t0_0 := keepc hb3 t0_0 l100
  replace t0_1 := keepc hb3 t0_1 l100
  replace t0_2 := keepc hb3 t0_2 l100
  replace t0_3 := keepc hb3 t0_3 l100
  replace t0_4 := keepc hb3 t0_4 l100
  replace l0 := Nat.lt_of_lt_of_le l0 hb3.size
  replace l1 := Nat.lt_of_lt_of_le l1 hb3.size
  replace l100 := Nat.lt_of_lt_of_le l100 hb3.size
  replace hx1 := hx1.to hb3
  replace hx2 := hx2.to hb3
  replace hx3 := hx3.to hb3
  replace hy1 := hy1.to hb3
  replace hy2 := hy2.to hb3
  replace hy3 := hy3.to hb3
  replace h1 := h1.to hb3
  replace HW := Lib.hid (hstep HW hb3)
  clear hb3
  go_wp2_with fail
  refine (rim_big (x.sub y) M1 M2 M3 cM1 cM2 cM3 _ (by exact h1) (HSD.out.mono (by omega))).mono ?_
  rintro e w4 ⟨P1, P2, P3, cP1, cP2, cP3, rfl, h2, hb4⟩
  replace s0_0 := keepc hb4 s0_0 l0
  replace s0_1 := keepc hb4 s0_1 l0
  replace s0_2 := keepc hb4 s0_2 l0
  replace s0_3 := keepc hb4 s0_3 l0
  replace s0_4 := keepc hb4 s0_4 l0
  replace s1_0 := keepc hb4 s1_0 l1
  replace s1_1 := keepc hb4 s1_1 l1
  replace s1_2 := keepc hb4 s1_2 l1
  replace s1_3 := keepc hb4 s1_3 l1
  replace s1_4 := keepc hb4 s1_4 l1
  replace t0_0 := keepc hb4 t0_0 l100
  replace t0_1 := keepc hb4 t0_1 l100
  replace t0_2 := keepc hb4 t0_2 l100
  replace t0_3 := keepc hb4 t0_3 l100
  replace t0_4 := keepc hb4 t0_4 l100
  replace l0 := Nat.lt_of_lt_of_le l0 hb4.size
  replace l1 := Nat.lt_of_lt_of_le l1 hb4.size
  replace l100 := Nat.lt_of_lt_of_le l100 hb4.size
  replace hx1 := hx1.to hb4
  replace hx2 := hx2.to hb4
  replace hx3 := hx3.to hb4
  replace hy1 := hy1.to hb4
  replace hy2 := hy2.to hb4
  replace hy3 := hy3.to hb4
  replace h1 := h1.to hb4
  replace HW := Lib.hid (hstep HW hb4)
  clear hb4
  go_wp2_with fail
  refine (rsign_any (x.sub y).imOf P1 P2 P3 cP1 cP2 cP3 _ (by exact h2)).mono ?_
  rintro e w5 ⟨rfl, hb5⟩
  replace s0_0 := keepc hb5 s0_0 l0
  replace s0_1 := keepc hb5 s0_1 l0
  replace s0_2 := keepc hb5 s0_2 l0
  replace s0_3 := keepc hb5 s0_3 l0
  replace s0_4 := keepc hb5 s0_4 l0
  replace s1_0 := keepc hb5 s1_0 l1
  replace s1_1 := keepc hb5 s1_1 l1
  replace s1_2 := keepc hb5 s1_2 l1
  replace s1_3 := keepc hb5 s1_3 l1
  replace s1_4 := keepc hb5 s1_4 l1
  replace t0_0 := keepc hb5 t0_0 l100
  replace t0_1 := keepc hb5 t0_1 l100
  replace t0_2 := keepc hb5 t0_2 l100
  replace t0_3 := keepc hb5 t0_3 l100
  replace t0_4 := keepc hb5 t0_4 l100
  replace l0 := Nat.lt_of_lt_of_le l0 hb5.size
  replace l1 := Nat.lt_of_lt_of_le l1 hb5.size
  replace l100 := Nat.lt_of_lt_of_le l100 hb5.size
  replace hx1 := hx1.to hb5
  replace hx2 := hx2.to hb5
  replace hx3 := hx3.to hb5
  replace hy1 := hy1.to hb5
  replace hy2 := hy2.to hb5
  replace hy3 := hy3.to hb5
  replace h1 := h1.to hb5
  replace h2 := h2.to hb5
  replace HW := Lib.hid (hstep HW hb5)
  clear hb5
  go_wp2_with fail
  go_ret
  exact ⟨by rw [E.out]; rfl, HW.out⟩
/-- 'Cmp'. -/
theorem rcmpq_any (x y : Cx) (A1 A2 A3 B1 B2 B3 : Option Addr) (cA1 cA2 cA3 cB1 cB2 cB3 : Nat) (w : World) (hx : Num3C w A1 A2 A3 x) (hy : Num3C w B1 B2 B3 y) (hsx : sz 137438953472 x) (hsy : sz 137438953472 y) :
    Calls Tryz.prog 51 #[.agg #[.bool (sn (na x)), .slice A1 (ln (ab (na x))) cA1, .bool (sn (nb x)), .slice A2 (ln (ab (nb x))) cA2, .slice A3 (ln (nd x)) cA3], .agg #[.bool (sn (na y)), .slice B1 (ln (ab (na y))) cB1, .bool (sn (nb y)), .slice B2 (ln (ab (nb y))) cB2, .slice B3 (ln (nd y)) cB3]] w (RetInt w (cmpC x y)) := by
  by_cases h : cmpZ (na (x.sub y)) 0 = 0
  · exact rcmpq_eq x y A1 A2 A3 B1 B2 B3 cA1 cA2 cA3 cB1 cB2 cB3 w hx hy hsx hsy h
  · exact rcmpq_ne x y A1 A2 A3 B1 B2 B3 cA1 cA2 cA3 cB1 cB2 cB3 w hx hy hsx hsy h
set_option maxHeartbeats 4000000 in
theorem rdiv_zero (x y : Cx) (A1 A2 A3 B1 B2 B3 : Option Addr) (cA1 cA2 cA3 cB1 cB2 cB3 : Nat) (w : World) (hx : Num3C w A1 A2 A3 x) (hy : Num3C w B1 B2 B3 y) (hsx : sz 137438953472 x) (hsy : sz 137438953472 y) (h0 : y = Cx.zero) :
    Calls Tryz.prog 33 #[.agg #[.bool (sn (na x)), .slice A1 (ln (ab (na x))) cA1, .bool (sn (nb x)), .slice A2 (ln (ab (nb x))) cA2, .slice A3 (ln (nd x)) cA3], .agg #[.bool (sn (na y)), .slice B1 (ln (ab (na y))) cB1, .bool (sn (nb y)), .slice B2 (ln (ab (nb y))) cB2, .slice B3 (ln (nd y)) cB3]] w (RetNumCE w 3 Cx.zero) := by
  obtain ⟨hx1, hx2, hx3⟩ := hx
  obtain ⟨hy1, hy2, hy3⟩ := hy
  clear hsx hsy
  have t : decide (y = Cx.zero) = true := decide_eq_true h0
  clear h0
  go_enter Tryz.func33, Tryz.ntmps33
  go_wp2_with fail
  obtain ⟨W, hW⟩ : ∃ W : World, W = (((w.alloc (.cells #[.bool (sn (na x)), .slice A1 (ln (ab (na x))) cA1, .bool (sn (nb x)), .slice A2 (ln (ab (nb x))) cA2, .slice A3 (ln (nd x)) cA3] 34)).alloc (.cells #[.bool (sn (na y)), .slice B1 (ln (ab (na y))) cB1, .bool (sn (nb y)), .slice B2 (ln (ab (nb y))) cB2, .slice B3 (ln (nd y)) cB3] 34)).alloc (.cells #[.bool false, .slice none 0 0, .bool false, .slice none 0 0, .slice none 0 0] 34)) := ⟨_, rfl⟩
  have s0_0 : W.cell? ⟨w.heap.size, 0, none⟩ = some (.bool (sn (na x))) := by subst hW; go_simp
  have s0_1 : W.cell? ⟨w.heap.size, 1, none⟩ = some (.slice A1 (ln (ab (na x))) cA1) := by subst hW; go_simp
  have s0_2 : W.cell? ⟨w.heap.size, 2, none⟩ = some (.bool (sn (nb x))) := by subst hW; go_simp
  have s0_3 : W.cell? ⟨w.heap.size, 3, none⟩ = some (.slice A2 (ln (ab (nb x))) cA2) := by subst hW; go_simp
  have s0_4 : W.cell? ⟨w.heap.size, 4, none⟩ = some (.slice A3 (ln (nd x)) cA3) := by subst hW; go_simp
  have s1_0 : W.cell? ⟨w.heap.size + 1, 0, none⟩ = some (.bool (sn (na y))) := by subst hW; go_simp
  have s1_1 : W.cell? ⟨w.heap.size + 1, 1, none⟩ = some (.slice B1 (ln (ab (na y))) cB1) := by subst hW; go_simp
  have s1_2 : W.cell? ⟨w.heap.size + 1, 2, none⟩ = some (.bool (sn (nb y))) := by subst hW; go_simp
  have s1_3 : W.cell? ⟨w.heap.size + 1, 3, none⟩ = some (.slice B2 (ln (ab (nb y))) cB2) := by subst hW; go_simp
  have s1_4 : W.cell? ⟨w.heap.size + 1, 4, none⟩ = some (.slice B3 (ln (nd y)) cB3) := by subst hW; go_simp
  have r0 : W.cell? ⟨w.heap.size + 1 + 1, 0, none⟩ = some (.bool false) := by subst hW; go_simp
  have f0 : W.frozen? ⟨w.heap.size + 1 + 1, 0, none⟩ = false := by subst hW; go_simp
  have r1 : W.cell? ⟨w.heap.size + 1 + 1, 1, none⟩ = some (.slice none 0 0) := by subst hW; go_simp
  have f1 : W.frozen? ⟨w.heap.size + 1 + 1, 1, none⟩ = false := by subst hW; go_simp
  have r2 : W.cell? ⟨w.heap.size + 1 + 1, 2, none⟩ = some (.bool false) := by subst hW; go_simp
  have f2 : W.frozen? ⟨w.heap.size + 1 + 1, 2, none⟩ = false := by subst hW; go_simp
  have r3 : W.cell? ⟨w.heap.size + 1 + 1, 3, none⟩ = some (.slice none 0 0) := by subst hW; go_simp
  have f3 : W.frozen? ⟨w.heap.size + 1 + 1, 3, none⟩ = false := by subst hW; go_simp
  have r4 : W.cell? ⟨w.heap.size + 1 + 1, 4, none⟩ = some (.slice none 0 0) := by subst hW; go_simp
  have f4 : W.frozen? ⟨w.heap.size + 1 + 1, 4, none⟩ = false := by subst hW; go_simp
  have HW : Below w.heap.size w W := by subst hW; exact ((((Below.refl w.heap.size w).alloc (Nat.le_refl _) _).alloc (by simp) _).alloc (by simp; omega) _)
  have l0 : w.heap.size < W.heap.size := by subst hW; simp <;> omega
  have l1 : w.heap.size + 1 < W.heap.size := by subst hW; simp <;> omega
  have l2 : w.heap.size + 1 + 1 < W.heap.size := by subst hW; simp
  have n0 : w.heap.size ≠ w.heap.size + 1 + 1 := by omega
  have n1 : w.heap.size + 1 ≠ w.heap.size + 1 + 1 := by omega
  replace hx1 := hx1.to HW
  replace hx2 := hx2.to HW
  replace hx3 := hx3.to HW
  replace hy1 := hy1.to HW
  replace hy2 := hy2.to HW
  replace hy3 := hy3.to HW
  rw [← hW]
  clear hW
  replace HW := Lib.hid HW
  refine (rzero_any y B1 B2 B3 cB1 cB2 cB3 _ (by exact Num3C.mk' hy1 hy2 hy3)).mono ?_
  rintro e w1 ⟨rfl, hb1⟩
  replace s0_0 := keepc hb1 s0_0 l0
  replace s0_1 := keepc hb1 s0_1 l0
  replace s0_2 := keepc hb1 s0_2 l0
  replace s0_3 := keepc hb1 s0_3 l0
  replace s0_4 := keepc hb1 s0_4 l0
  replace s1_0 := keepc hb1 s1_0 l1
  replace s1_1 := keepc hb1 s1_1 l1
  replace s1_2 := keepc hb1 s1_2 l1
  replace s1_3 := keepc hb1 s1_3 l1
  replace s1_4 := keepc hb1 s1_4 l1
  replace r0 := keepc hb1 r0 l2
  replace f0 := keepf hb1 f0 l2
  replace r1 := keepc hb1 r1 l2
  replace f1 := keepf hb1 f1 l2
  replace r2 := keepc hb1 r2 l2
  replace f2 := keepf hb1 f2 l2
  replace r3 := keepc hb1 r3 l2
  replace f3 := keepf hb1 f3 l2
  replace r4 := keepc hb1 r4 l2
  replace f4 := keepf hb1 f4 l2
  replace l0 := Nat.lt_of_lt_of_le l0 hb1.size
  replace l1 := Nat.lt_of_lt_of_le l1 hb1.size
  replace l2 := Nat.lt_of_lt_of_le l2 hb1.size
  replace hx1 := hx1.to hb1
  replace hx2 := hx2.to hb1
  replace hx3 := hx3.to hb1
  replace hy1 := hy1.to hb1
  replace hy2 := hy2.to hb1
  replace hy3 := hy3.to hb1
  replace HW := Lib.hid (hstep HW hb1)
  clear hb1
  go_wp2_with fail
  refine (rwhole_any 0 _ (by omega) (by omega)).mono ?_
  rintro e w2 ⟨Z1, Z2, Z3, cZ1, cZ2, cZ3, rfl, hz, hb2⟩
  replace s0_0 := keepc hb2 s0_0 l0
  replace s0_1 := keepc hb2 s0_1 l0
  replace s0_2 := keepc hb2 s0_2 l0
  replace s0_3 := keepc hb2 s0_3 l0
  replace s0_4 := keepc hb2 s0_4 l0
  replace s1_0 := keepc hb2 s1_0 l1
  replace s1_1 := keepc hb2 s1_1 l1
  replace s1_2 := keepc hb2 s1_2 l1
  replace s1_3 := keepc hb2 s1_3 l1
  replace s1_4 := keepc hb2 s1_4 l1
  replace r0 := keepc hb2 r0 l2
  replace f0 := keepf hb2 f0 l2
  replace r1 := keepc hb2 r1 l2
  replace f1 := keepf hb2 f1 l2
  replace r2 := keepc hb2 r2 l2
  replace f2 := keepf hb2 f2 l2
  replace r3 := keepc hb2 r3 l2
  replace f3 := keepf hb2 f3 l2
  replace r4 := keepc hb2 r4 l2
  replace f4 := keepf hb2 f4 l2
  replace l0 := Nat.lt_of_lt_of_le l0 hb2.size
  replace l1 := Nat.lt_of_lt_of_le l1 hb2.size
  replace l2 := Nat.lt_of_lt_of_le l2 hb2.size
  replace hx1 := hx1.to hb2
  replace hx2 := hx2.to hb2
  replace hx3 := hx3.to hb2
  replace hy1 := hy1.to hb2
  replace hy2 := hy2.to hb2
  replace hy3 := hy3.to hb2
  replace HW := Lib.hid (hstep HW hb2)
  clear hb2
  go_wp2_with fail
  exact bodyPost_ret (v := .tuple #[.agg #[.bool (sn (na (Cx.ofInt 0))), .slice Z1 (ln (ab (na (Cx.ofInt 0)))) cZ1, .bool (sn (nb (Cx.ofInt 0))), .slice Z2 (ln (ab (nb (Cx.ofInt 0)))) cZ2, .slice Z3 (ln (nd (Cx.ofInt 0))) cZ3], .int .i64 3]) (by simp [results, Tryz.results33, go_sem, r0, r1, r2, r3, r4, f0, f1, f2, f3, f4]) rfl (retNumCE_fin (q := Cx.ofInt 0) HW hz (by omega) r0)
set_option maxHeartbeats 4000000 in
theorem rdiv_num (x y : Cx) (A1 A2 A3 B1 B2 B3 : Option Addr) (cA1 cA2 cA3 cB1 cB2 cB3 : Nat) (w : World) (hx : Num3C w A1 A2 A3 x) (hy : Num3C w B1 B2 B3 y) (hsx : sz 137438953472 x) (hsy : sz 137438953472 y) (h0 : y ≠ Cx.zero) :
    Calls Tryz.prog 33 #[.agg #[.bool (sn (na x)), .slice A1 (ln (ab (na x))) cA1, .bool (sn (nb x)), .slice A2 (ln (ab (nb x))) cA2, .slice A3 (ln (nd x)) cA3], .agg #[.bool (sn (na y)), .slice B1 (ln (ab (na y))) cB1, .bool (sn (nb y)), .slice B2 (ln (ab (nb y))) cB2, .slice B3 (ln (nd y)) cB3]] w (RetNumCE w 0 (x.div y)) := by
  obtain ⟨hx1, hx2, hx3⟩ := hx
  obtain ⟨hy1, hy2, hy3⟩ := hy
  have HSC := Lib.hid (sz_conj hsy)
  have HSZ := Lib.hid (sz_mul hsx (sz_conj hsy))
  have HSN := Lib.hid (sz_norm hsy)
  have HSX := Lib.hid hsx
  clear hsx
  have HSY := Lib.hid hsy
  clear hsy
  have t : decide (y = Cx.zero) = false := decide_eq_false h0
  have HN := Lib.hid (rdivn_ne x h0)
  rw [← rdiv_fr x h0]
  clear h0
  go_enter Tryz.func33, Tryz.ntmps33
  go_wp2_with fail
  obtain ⟨W, hW⟩ : ∃ W : World, W = (((w.alloc (.cells #[.bool (sn (na x)), .slice A1 (ln (ab (na x))) cA1, .bool (sn (nb x)), .slice A2 (ln (ab (nb x))) cA2, .slice A3 (ln (nd x)) cA3] 34)).alloc (.cells #[.bool (sn (na y)), .slice B1 (ln (ab (na y))) cB1, .bool (sn (nb y)), .slice B2 (ln (ab (nb y))) cB2, .slice B3 (ln (nd y)) cB3] 34)).alloc (.cells #[.bool false, .slice none 0 0, .bool false, .slice none 0 0, .slice none 0 0] 34)) := ⟨_, rfl⟩
  have s0_0 : W.cell? ⟨w.heap.size, 0, none⟩ = some (.bool (sn (na x))) := by subst hW; go_simp
  have s0_1 : W.cell? ⟨w.heap.size, 1, none⟩ = some (.slice A1 (ln (ab (na x))) cA1) := by subst hW; go_simp
  have s0_2 : W.cell? ⟨w.heap.size, 2, none⟩ = some (.bool (sn (nb x))) := by subst hW; go_simp
  have s0_3 : W.cell? ⟨w.heap.size, 3, none⟩ = some (.slice A2 (ln (ab (nb x))) cA2) := by subst hW; go_simp
  have s0_4 : W.cell? ⟨w.heap.size, 4, none⟩ = some (.slice A3 (ln (nd x)) cA3) := by subst hW; go_simp
  have s1_0 : W.cell? ⟨w.heap.size + 1, 0, none⟩ = some (.bool (sn (na y))) := by subst hW; go_simp
  have s1_1 : W.cell? ⟨w.heap.size + 1, 1, none⟩ = some (.slice B1 (ln (ab (na y))) cB1) := by subst hW; go_simp
  have s1_2 : W.cell? ⟨w.heap.size + 1, 2, none⟩ = some (.bool (sn (nb y))) := by subst hW; go_simp
  have s1_3 : W.cell? ⟨w.heap.size + 1, 3, none⟩ = some (.slice B2 (ln (ab (nb y))) cB2) := by subst hW; go_simp
  have s1_4 : W.cell? ⟨w.heap.size + 1, 4, none⟩ = some (.slice B3 (ln (nd y)) cB3) := by subst hW; go_simp
  have r0 : W.cell? ⟨w.heap.size + 1 + 1, 0, none⟩ = some (.bool false) := by subst hW; go_simp
  have f0 : W.frozen? ⟨w.heap.size + 1 + 1, 0, none⟩ = false := by subst hW; go_simp
  have r1 : W.cell? ⟨w.heap.size + 1 + 1, 1, none⟩ = some (.slice none 0 0) := by subst hW; go_simp
  have f1 : W.frozen? ⟨w.heap.size + 1 + 1, 1, none⟩ = false := by subst hW; go_simp
  have r2 : W.cell? ⟨w.heap.size + 1 + 1, 2, none⟩ = some (.bool false) := by subst hW; go_simp
  have f2 : W.frozen? ⟨w.heap.size + 1 + 1, 2, none⟩ = false := by subst hW; go_simp
  have r3 : W.cell? ⟨w.heap.size + 1 + 1, 3, none⟩ = some (.slice none 0 0) := by subst hW; go_simp
  have f3 : W.frozen? ⟨w.heap.size + 1 + 1, 3, none⟩ = false := by subst hW; go_simp
  have r4 : W.cell? ⟨w.heap.size + 1 + 1, 4, none⟩ = some (.slice none 0 0) := by subst hW; go_simp
  have f4 : W.frozen? ⟨w.heap.size + 1 + 1, 4, none⟩ = false := by subst hW; go_simp
  have HW : Below w.heap.size w W := by subst hW; exact ((((Below.refl w.heap.size w).alloc (Nat.le_refl _) _).alloc (by simp) _).alloc (by simp; omega) _)
  have l0 : w.heap.size < W.heap.size := by subst hW; simp <;> omega
  have l1 : w.heap.size + 1 < W.heap.size := by subst hW; simp <;> omega
  have l2 : w.heap.size + 1 + 1 < W.heap.size := by subst hW; simp
  have n0 : w.heap.size ≠ w.heap.size + 1 + 1 := by omega
  have n1 : w.heap.size + 1 ≠ w.heap.size + 1 + 1 := by omega
  replace hx1 := hx1.to HW
  replace hx2 := hx2.to HW
  replace hx3 := hx3.to HW
  replace hy1 := hy1.to HW
  replace hy2 := hy2.to HW
  replace hy3 := hy3.to HW
  rw [← hW]
  clear hW
  replace HW := Lib.hid HW
  refine (rzero_any y B1 B2 B3 cB1 cB2 cB3 _ (by exact Num3C.mk' hy1 hy2 hy3)).mono ?_
  rintro e w1 ⟨rfl, hb1⟩
  replace s0_0 := keepc hb1 s0_0 l0
  replace s0_1 := keepc hb1 s0_1 l0
  replace s0_2 := keepc hb1 s0_2 l0
  replace s0_3 := keepc hb1 s0_3 l0
  replace s0_4 := keepc hb1 s0_4 l0
  replace s1_0 := keepc hb1 s1_0 l1
  replace s1_1 := keepc hb1 s1_1 l1
  replace s1_2 := keepc hb1 s1_2 l1
  replace s1_3 := keepc hb1 s1_3 l1
  replace s1_4 := keepc hb1 s1_4 l1
  replace r0 := keepc hb1 r0 l2
  replace f0 := keepf hb1 f0 l2
  replace r1 := keepc hb1 r1 l2
  replace f1 := keepf hb1 f1 l2
  replace r2 := keepc hb1 r2 l2
  replace f2 := keepf hb1 f2 l2
  replace r3 := keepc hb1 r3 l2
  replace f3 := keepf hb1 f3 l2
  replace r4 := keepc hb1 r4 l2
  replace f4 := keepf hb1 f4 l2
  replace l0 := Nat.lt_of_lt_of_le l0 hb1.size
  replace l1 := Nat.lt_of_lt_of_le l1 hb1.size
  replace l2 := Nat.lt_of_lt_of_le l2 hb1.size
  replace hx1 := hx1.to hb1
  replace hx2 := hx2.to hb1
  replace hx3 := hx3.to hb1
  replace hy1 := hy1.to hb1
  replace hy2 := hy2.to hb1
  replace hy3 := hy3.to hb1
  replace HW := Lib.hid (hstep HW hb1)
  clear hb1
  go_wp2_with fail
  refine (rnorm_num y B1 B2 B3 cB1 cB2 cB3 _ (by exact Num3C.mk' hy1 hy2 hy3) HSY.out).mono ?_
  rintro e w2 ⟨N1, N2, N3, cN1, cN2, cN3, rfl, hn, hb2⟩
  replace s0_0 := keepc hb2 s0_0 l0
  replace s0_1 := keepc hb2 s0_1 l0
  replace s0_2 := keepc hb2 s0_2 l0
  replace s0_3 := keepc hb2 s0_3 l0
  replace s0_4 := keepc hb2 s0_4 l0
  replace s1_0 := keepc hb2 s1_0 l1
  replace s1_1 := keepc hb2 s1_1 l1
  replace s1_2 := keepc hb2 s1_2 l1
  replace s1_3 := keepc hb2 s1_3 l1
  replace s1_4 := keepc hb2 s1_4 l1
  replace r0 := keepc hb2 r0 l2
  replace f0 := keepf hb2 f0 l2
  replace r1 := keepc hb2 r1 l2
  replace f1 := keepf hb2 f1 l2
  replace r2 := keepc hb2 r2 l2
  replace f2 := keepf hb2 f2 l2
  replace r3 := keepc hb2 r3 l2
  replace f3 := keepf hb2 f3 l2
  replace r4 := keepc hb2 r4 l2
  replace f4 := keepf hb2 f4 l2
  replace l0 := Nat.lt_of_lt_of_le l0 hb2.size
  replace l1 := Nat.lt_of_lt_of_le l1 hb2.size
  replace l2 := Nat.lt_of_lt_of_le l2 hb2.size
  replace hx1 := hx1.to hb2
  replace hx2 := hx2.to hb2
  replace hx3 := hx3.to hb2
  replace hy1 := hy1.to hb2
  replace hy2 := hy2.to hb2
  replace hy3 := hy3.to hb2
  replace HW := Lib.hid (hstep HW hb2)
  clear hb2
  go_wp2_with fail
  obtain ⟨w3, hX⟩ : ∃ X : World, X = w2.alloc (.cells #[.bool (sn (na y.norm)), .slice N1 (ln (ab (na y.norm))) cN1, .bool (sn (nb y.norm)), .slice N2 (ln (ab (nb y.norm))) cN2, .slice N3 (ln (nd y.norm)) cN3] 34) := ⟨_, rfl⟩
  rw [← hX]
  have hb3 : Below w2.heap.size w2 w3 := by subst hX; exact (Below.refl _ _).alloc (Nat.le_refl _) _
  have t0_0 : w3.cell? ⟨w2.heap.size, 0, none⟩ = some (.bool (sn (na y.norm))) := by subst hX; go_simp
  have t0_1 : w3.cell? ⟨w2.heap.size, 1, none⟩ = some (.slice N1 (ln (ab (na y.norm))) cN1) := by subst hX; go_simp
  have t0_2 : w3.cell? ⟨w2.heap.size, 2, none⟩ = some (.bool (sn (nb y.norm))) := by subst hX; go_simp
  have t0_3 : w3.cell? ⟨w2.heap.size, 3, none⟩ = some (.slice N2 (ln (ab (nb y.norm))) cN2) := by subst hX; go_simp
  have t0_4 : w3.cell? ⟨w2.heap.size, 4, none⟩ = some (.slice N3 (ln (nd y.norm)) cN3) := by subst hX; go_simp
  have l100 : w2.heap.size < w3.heap.size := by subst hX; simp
  have n100 : w2.heap.size ≠ w.heap.size + 1 + 1 := by omega
  clear hX
  replace s0_0 := keepc hb3 s0_0 l0
  replace s0_1 := keepc hb3 s0_1 l0
  replace s0_2 := keepc hb3 s0_2 l0
  replace s0_3 := keepc hb3 s0_3 l0
  replace s0_4 := keepc hb3 s0_4 l0
  replace s1_0 := keepc hb3 s1_0 l1
  replace s1_1 := keepc hb3 s1_1 l1
  replace s1_2 := keepc hb3 s1_2 l1
  replace s1_3 := keepc hb3 s1_3 l1
  replace s1_4 := keepc hb3 s1_4 l1
  replace r0 := keepc hb3 r0 l2
  replace f0 := keepf hb3 f0 l2
  replace r1 := keepc hb3 r1 l2
  replace f1 := keepf hb3 f1 l2
  replace r2 := keepc hb3 r2 l2
  replace f2 := keepf hb3 f2 l2
  replace r3 := keepc hb3 r3 l2
  replace f3 := keepf hb3 f3 l2
  replace r4 := keepc hb3 r4 l2
  replace f4 := keepf hb3 f4 l2
  replace l0 := Nat.lt_of_lt_of_le l0 hb3.size
  replace l1 := Nat.lt_of_lt_of_le l1 hb3.size
  replace l2 := Nat.lt_of_lt_of_le l2 hb3.size
  replace hx1 := hx1.to hb3
  replace hx2 := hx2.to hb3
  replace hx3 := hx3.to hb3
  replace hy1 := hy1.to hb3
  replace hy2 := hy2.to hb3
  replace hy3 := hy3.to hb3
  replace hn := hn.to hb3
  replace HW := Lib.hid (hstep HW hb3)
  clear hb3
  obtain ⟨g0, hg0⟩ : ∃ p, p = w2.heap.size := ⟨_, rfl⟩
  rw [← hg0] at t0_0 t0_1 t0_2 t0_3 t0_4 l100 n100 ⊢
  clear hg0
  go_upto_region 4 with fail
  go_cut [7] (fun p wx => VarNumC w3 (x.mul y.conj) p wx)
  case first =>
    have gB : Hid (Below w3.heap.size w3 w3) := Lib.hid (Below.refl _ _)
    go_region_held3 (fun w' => w'.cell? ⟨w.heap.size, 0, none⟩ = some (.bool (sn (na x))) ∧ w'.cell? ⟨w.heap.size, 1, none⟩ = some (.slice A1 (ln (ab (na x))) cA1) ∧ w'.cell? ⟨w.heap.size, 2, none⟩ = some (.bool (sn (nb x))) ∧ w'.cell? ⟨w.heap.size, 3, none⟩ = some (.slice A2 (ln (ab (nb x))) cA2) ∧ w'.cell? ⟨w.heap.size, 4, none⟩ = some (.slice A3 (ln (nd x)) cA3) ∧ w'.cell? ⟨w.heap.size + 1, 0, none⟩ = some (.bool (sn (na y))) ∧ w'.cell? ⟨w.heap.size + 1, 1, none⟩ = some (.slice B1 (ln (ab (na y))) cB1) ∧ w'.cell? ⟨w.heap.size + 1, 2, none⟩ = some (.bool (sn (nb y))) ∧ w'.cell? ⟨w.heap.size + 1, 3, none⟩ = some (.slice B2 (ln (ab (nb y))) cB2) ∧ w'.cell? ⟨w.heap.size + 1, 4, none⟩ = some (.slice B3 (ln (nd y)) cB3)) (first | with_reducible exact ⟨s0_0, s0_1, s0_2, s0_3, s0_4, s1_0, s1_1, s1_2, s1_3, s1_4⟩ | with_reducible exact ⟨(keepa s0_0 l0), (keepa s0_1 l0), (keepa s0_2 l0), (keepa s0_3 l0), (keepa s0_4 l0), (keepa s1_0 l1), (keepa s1_1 l1), (keepa s1_2 l1), (keepa s1_3 l1), (keepa s1_4 l1)⟩ | with_reducible exact ⟨(keepa (keepa s0_0 l0) (lta l0)), (keepa (keepa s0_1 l0) (lta l0)), (keepa (keepa s0_2 l0) (lta l0)), (keepa (keepa s0_3 l0) (lta l0)), (keepa (keepa s0_4 l0) (lta l0)), (keepa (keepa s1_0 l1) (lta l1)), (keepa (keepa s1_1 l1) (lta l1)), (keepa (keepa s1_2 l1) (lta l1)), (keepa (keepa s1_3 l1) (lta l1)), (keepa (keepa s1_4 l1) (lta l1))⟩ | with_reducible exact ⟨(keepd s0_0), (keepd s0_1), (keepd s0_2), (keepd s0_3), (keepd s0_4), (keepd s1_0), (keepd s1_1), (keepd s1_2), (keepd s1_3), (keepd s1_4)⟩ | with_reducible exact ⟨(keepd (keepa s0_0 l0)), (keepd (keepa s0_1 l0)), (keepd (keepa s0_2 l0)), (keepd (keepa s0_3 l0)), (keepd (keepa s0_4 l0)), (keepd (keepa s1_0 l1)), (keepd (keepa s1_1 l1)), (keepd (keepa s1_2 l1)), (keepd (keepa s1_3 l1)), (keepd (keepa s1_4 l1))⟩ | with_reducible exact ⟨(keepd (keepa (keepa s0_0 l0) (lta l0))), (keepd (keepa (keepa s0_1 l0) (lta l0))), (keepd (keepa (keepa s0_2 l0) (lta l0))), (keepd (keepa (keepa s0_3 l0) (lta l0))), (keepd (keepa (keepa s0_4 l0) (lta l0))), (keepd (keepa (keepa s1_0 l1) (lta l1))), (keepd (keepa (keepa s1_1 l1) (lta l1))), (keepd (keepa (keepa s1_2 l1) (lta l1))), (keepd (keepa (keepa s1_3 l1) (lta l1))), (keepd (keepa (keepa s1_4 l1) (lta l1)))⟩ | (have _ := gx; with_reducible exact ⟨(keeps (keeps (keeps (keeps (keeps s0_0 gn0) gn0) gn0) gn0) gn0), (keeps (keeps (keeps (keeps (keeps s0_1 gn0) gn0) gn0) gn0) gn0), (keeps (keeps (keeps (keeps (keeps s0_2 gn0) gn0) gn0) gn0) gn0), (keeps (keeps (keeps (keeps (keeps s0_3 gn0) gn0) gn0) gn0) gn0), (keeps (keeps (keeps (keeps (keeps s0_4 gn0) gn0) gn0) gn0) gn0), (keeps (keeps (keeps (keeps (keeps s1_0 gn1) gn1) gn1) gn1) gn1), (keeps (keeps (keeps (keeps (keeps s1_1 gn1) gn1) gn1) gn1) gn1), (keeps (keeps (keeps (keeps (keeps s1_2 gn1) gn1) gn1) gn1) gn1), (keeps (keeps (keeps (keeps (keeps s1_3 gn1) gn1) gn1) gn1) gn1), (keeps (keeps (keeps (keeps (keeps s1_4 gn1) gn1) gn1) gn1) gn1)⟩)) (first
      | (go_at_call 37; refine (rconj_num y B1 B2 B3 cB1 cB2 cB3 _ (by first | with_reducible exact Num3C.mk' hy1 hy2 hy3 | with_reducible exact Num3C.mk' (hy1.alloc _) (hy2.alloc _) (hy3.alloc _) | exact Num3C.mk' hy1 hy2 hy3 | exact Num3C.mk' (hy1.alloc _) (hy2.alloc _) (hy3.alloc _))).mono ?_; rintro e w4 ⟨P1, P2, P3, cP1, cP2, cP3, rfl, hp, ha⟩; have hb4 : Below w3.heap.size w3 w4 := (by first | with_reducible exact ha | with_reducible exact undrew ha | with_reducible exact unalloc ha | with_reducible exact undrewalloc ha | with_reducible exact unalloc (unalloc ha) | with_reducible exact unalloc (undrewalloc ha) | with_reducible exact undrew (unalloc ha) | with_reducible exact undrew (unalloc (unalloc ha))); (try replace q1 := q1.to hb4); (try replace gx := gx.to hb4); (try first | (with_reducible have q1 := newnat1 ha) | (with_reducible have q1 := newnat1 (undrew ha)) | (with_reducible have q1 := newnat ha) | (with_reducible have q1 := newnat (undrew ha)) | (with_reducible have q1 := newnat (unalloc ha)) | (with_reducible have q1 := newnat (undrewalloc ha))); (try ((first | (with_reducible have gx := newvarN1 ha) | (with_reducible have gx := newvarN1 (undrew ha)) | (with_reducible have gx := newvarN ha) | (with_reducible have gx := newvarN (undrew ha)) | (with_reducible have gx := newvarN (unalloc ha)) | (with_reducible have gx := newvarN (undrewalloc ha))); have gn0 := Nat.ne_of_lt (Nat.lt_of_lt_of_le l0 gx.1); have gn1 := Nat.ne_of_lt (Nat.lt_of_lt_of_le l1 gx.1); have gn2 := Nat.ne_of_lt (Nat.lt_of_lt_of_le l2 gx.1); have gn100 := Nat.ne_of_lt (Nat.lt_of_lt_of_le l100 gx.1); have gge := Nat.le_trans gB.out.size gx.1)); replace gB := Lib.hid (onto gB.out hb4); replace s0_0 := keepc hb4 s0_0 l0; replace s0_1 := keepc hb4 s0_1 l0; replace s0_2 := keepc hb4 s0_2 l0; replace s0_3 := keepc hb4 s0_3 l0; replace s0_4 := keepc hb4 s0_4 l0; replace s1_0 := keepc hb4 s1_0 l1; replace s1_1 := keepc hb4 s1_1 l1; replace s1_2 := keepc hb4 s1_2 l1; replace s1_3 := keepc hb4 s1_3 l1; replace s1_4 := keepc hb4 s1_4 l1; replace t0_0 := keepc hb4 t0_0 l100; replace t0_1 := keepc hb4 t0_1 l100; replace t0_2 := keepc hb4 t0_2 l100; replace t0_3 := keepc hb4 t0_3 l100; replace t0_4 := keepc hb4 t0_4 l100; replace r0 := keepc hb4 r0 l2; replace f0 := keepf hb4 f0 l2; replace r1 := keepc hb4 r1 l2; replace f1 := keepf hb4 f1 l2; replace r2 := keepc hb4 r2 l2; replace f2 := keepf hb4 f2 l2; replace r3 := keepc hb4 r3 l2; replace f3 := keepf hb4 f3 l2; replace r4 := keepc hb4 r4 l2; replace f4 := keepf hb4 f4 l2; replace l0 := Nat.lt_of_lt_of_le l0 hb4.size; replace l1 := Nat.lt_of_lt_of_le l1 hb4.size; replace l2 := Nat.lt_of_lt_of_le l2 hb4.size; replace l100 := Nat.lt_of_lt_of_le l100 hb4.size; replace hx1 := hx1.to hb4; replace hx2 := hx2.to hb4; replace hx3 := hx3.to hb4; replace hy1 := hy1.to hb4; replace hy2 := hy2.to hb4; replace hy3 := hy3.to hb4; replace hn := hn.to hb4; replace HW := Lib.hid (hstep HW hb4); clear hb4; clear ha)
      | (go_at_call 31; refine (rmul_any x y.conj A1 A2 A3 P1 P2 P3 cA1 cA2 cA3 cP1 cP2 cP3 _ (by first | with_reducible exact Num3C.mk' hx1 hx2 hx3 | with_reducible exact Num3C.mk' (hx1.alloc _) (hx2.alloc _) (hx3.alloc _) | exact Num3C.mk' hx1 hx2 hx3 | exact Num3C.mk' (hx1.alloc _) (hx2.alloc _) (hx3.alloc _)) (by first | with_reducible exact hp | with_reducible exact num3C_alloc hp | exact hp | exact num3C_alloc hp) HSX.out HSC.out).mono ?_; rintro e w5 ⟨Z1, Z2, Z3, cZ1, cZ2, cZ3, rfl, hz, ha⟩; have hb5 : Below w4.heap.size w4 w5 := (by first | with_reducible exact ha | with_reducible exact undrew ha | with_reducible exact unalloc ha | with_reducible exact undrewalloc ha | with_reducible exact unalloc (unalloc ha) | with_reducible exact unalloc (undrewalloc ha) | with_reducible exact undrew (unalloc ha) | with_reducible exact undrew (unalloc (unalloc ha))); (try replace q1 := q1.to hb5); (try replace gx := gx.to hb5); (try first | (with_reducible have q1 := newnat1 ha) | (with_reducible have q1 := newnat1 (undrew ha)) | (with_reducible have q1 := newnat ha) | (with_reducible have q1 := newnat (undrew ha)) | (with_reducible have q1 := newnat (unalloc ha)) | (with_reducible have q1 := newnat (undrewalloc ha))); (try ((first | (with_reducible have gx := newvarN1 ha) | (with_reducible have gx := newvarN1 (undrew ha)) | (with_reducible have gx := newvarN ha) | (with_reducible have gx := newvarN (undrew ha)) | (with_reducible have gx := newvarN (unalloc ha)) | (with_reducible have gx := newvarN (undrewalloc ha))); have gn0 := Nat.ne_of_lt (Nat.lt_of_lt_of_le l0 gx.1); have gn1 := Nat.ne_of_lt (Nat.lt_of_lt_of_le l1 gx.1); have gn2 := Nat.ne_of_lt (Nat.lt_of_lt_of_le l2 gx.1); have gn100 := Nat.ne_of_lt (Nat.lt_of_lt_of_le l100 gx.1); have gge := Nat.le_trans gB.out.size gx.1)); replace gB := Lib.hid (onto gB.out hb5); replace s0_0 := keepc hb5 s0_0 l0; replace s0_1 := keepc hb5 s0_1 l0; replace s0_2 := keepc hb5 s0_2 l0; replace s0_3 := keepc hb5 s0_3 l0; replace s0_4 := keepc hb5 s0_4 l0; replace s1_0 := keepc hb5 s1_0 l1; replace s1_1 := keepc hb5 s1_1 l1; replace s1_2 := keepc hb5 s1_2 l1; replace s1_3 := keepc hb5 s1_3 l1; replace s1_4 := keepc hb5 s1_4 l1; replace t0_0 := keepc hb5 t0_0 l100; replace t0_1 := keepc hb5 t0_1 l100; replace t0_2 := keepc hb5 t0_2 l100; replace t0_3 := keepc hb5 t0_3 l100; replace t0_4 := keepc hb5 t0_4 l100; replace r0 := keepc hb5 r0 l2; replace f0 := keepf hb5 f0 l2; replace r1 := keepc hb5 r1 l2; replace f1 := keepf hb5 f1 l2; replace r2 := keepc hb5 r2 l2; replace f2 := keepf hb5 f2 l2; replace r3 := keepc hb5 r3 l2; replace f3 := keepf hb5 f3 l2; replace r4 := keepc hb5 r4 l2; replace f4 := keepf hb5 f4 l2; replace l0 := Nat.lt_of_lt_of_le l0 hb5.size; replace l1 := Nat.lt_of_lt_of_le l1 hb5.size; replace l2 := Nat.lt_of_lt_of_le l2 hb5.size; replace l100 := Nat.lt_of_lt_of_le l100 hb5.size; replace hx1 := hx1.to hb5; replace hx2 := hx2.to hb5; replace hx3 := hx3.to hb5; replace hy1 := hy1.to hb5; replace hy2 := hy2.to hb5; replace hy3 := hy3.to hb5; replace hn := hn.to hb5; replace hp := hp.to hb5; replace HW := Lib.hid (hstep HW hb5); clear hb5; (try (have gy := gx; obtain ⟨_, _, ⟨ga0, ga1, ga2, ga3, ga4⟩, gf0, gf1, gf2, gf3, gf4⟩ := gy)); clear ha))
    all_goals
      go_wp2_with fail
      go_meet
      first | with_reducible exact varNumC_set gB.out gx gge hz | with_reducible exact varNumC_new gB.out hz
  case rest =>
  obtain ⟨g1, V11, V12, V13, cV11, cV12, cV13, hp1, ⟨t1_0, t1_1, t1_2, t1_3, t1_4⟩, hv1, hg1, l101, hb4⟩ := hcut
  obtain ⟨hv11, hv12, hv13⟩ := hv1
  subst hp1
  have n101 : g1 ≠ w.heap.size + 1 + 1 := by omega
  obtain ⟨w4, rfl⟩ : ∃ X : World, X = wc := ⟨_, rfl⟩
  replace s0_0 := keepc hb4 s0_0 l0
  replace s0_1 := keepc hb4 s0_1 l0
  replace s0_2 := keepc hb4 s0_2 l0
  replace s0_3 := keepc hb4 s0_3 l0
  replace s0_4 := keepc hb4 s0_4 l0
  replace s1_0 := keepc hb4 s1_0 l1
  replace s1_1 := keepc hb4 s1_1 l1
  replace s1_2 := keepc hb4 s1_2 l1
  replace s1_3 := keepc hb4 s1_3 l1
  replace s1_4 := keepc hb4 s1_4 l1
  replace t0_0 := keepc hb4 t0_0 l100
  replace t0_1 := keepc hb4 t0_1 l100
  replace t0_2 := keepc hb4 t0_2 l100
  replace t0_3 := keepc hb4 t0_3 l100
  replace t0_4 := keepc hb4 t0_4 l100
  replace r0 := keepc hb4 r0 l2
  replace f0 := keepf hb4 f0 l2
  replace r1 := keepc hb4 r1 l2
  replace f1 := keepf hb4 f1 l2
  replace r2 := keepc hb4 r2 l2
  replace f2 := keepf hb4 f2 l2
  replace r3 := keepc hb4 r3 l2
  replace f3 := keepf hb4 f3 l2
  replace r4 := keepc hb4 r4 l2
  replace f4 := keepf hb4 f4 l2
  replace l0 := Nat.lt_of_lt_of_le l0 hb4.size
  replace l1 := Nat.lt_of_lt_of_le l1 hb4.size
  replace l2 := Nat.lt_of_lt_of_le l2 hb4.size
  replace l100 := Nat.lt_of_lt_of_le l100 hb4.size
  replace hx1 := hx1.to hb4
  replace hx2 := hx2.to hb4
  replace hx3 := hx3.to hb4
  replace hy1 := hy1.to hb4
  replace hy2 := hy2.to hb4
  replace hy3 := hy3.to hb4
  replace hn := hn.to hb4
  replace HW := Lib.hid (hstep HW hb4)
  clear hb4
  go_wp2_with fail
  obtain ⟨w5, hX⟩ : ∃ X : World, X = w4.alloc (.cells #[.bool false, .slice N3 (ln (nd y.norm)) cN3] 32) := ⟨_, rfl⟩
  rw [← hX]
  have hb5 : Below w4.heap.size w4 w5 := by subst hX; exact (Below.refl _ _).alloc (Nat.le_refl _) _
  have t2_0 : w5.cell? ⟨w4.heap.size, 0, none⟩ = some (.bool false) := by subst hX; go_simp
  have t2_1 : w5.cell? ⟨w4.heap.size, 1, none⟩ = some (.slice N3 (ln (nd y.norm)) cN3) := by subst hX; go_simp
  have l102 : w4.heap.size < w5.heap.size := by subst hX; simp
  have n102 : w4.heap.size ≠ w.heap.size + 1 + 1 := by omega
  clear hX
  replace s0_0 := keepc hb5 s0_0 l0
  replace s0_1 := keepc hb5 s0_1 l0
  replace s0_2 := keepc hb5 s0_2 l0
  replace s0_3 := keepc hb5 s0_3 l0
  replace s0_4 := keepc hb5 s0_4 l0
  replace s1_0 := keepc hb5 s1_0 l1
  replace s1_1 := keepc hb5 s1_1 l1
  replace s1_2 := keepc hb5 s1_2 l1
  replace s1_3 := keepc hb5 s1_3 l1
  replace s1_4 := keepc hb5 s1_4 l1
  replace t0_0 := keepc hb5 t0_0 l100
  replace t0_1 := keepc hb5 t0_1 l100
  replace t0_2 := keepc hb5 t0_2 l100
  replace t0_3 := keepc hb5 t0_3 l100
  replace t0_4 := keepc hb5 t0_4 l100
  replace t1_0 := keepc hb5 t1_0 l101
  replace t1_1 := keepc hb5 t1_1 l101
  replace t1_2 := keepc hb5 t1_2 l101
  replace t1_3 := keepc hb5 t1_3 l101
  replace t1_4 := keepc hb5 t1_4 l101
  replace r0 := keepc hb5 r0 l2
  replace f0 := keepf hb5 f0 l2
  replace r1 := keepc hb5 r1 l2
  replace f1 := keepf hb5 f1 l2
  replace r2 := keepc hb5 r2 l2
  replace f2 := keepf hb5 f2 l2
  replace r3 := keepc hb5 r3 l2
  replace f3 := keepf hb5 f3 l2
  replace r4 := keepc hb5 r4 l2
  replace f4 := keepf hb5 f4 l2
  replace l0 := Nat.lt_of_lt_of_le l0 hb5.size
  replace l1 := Nat.lt_of_lt_of_le l1 hb5.size
  replace l2 := Nat.lt_of_lt_of_le l2 hb5.size
  replace l100 := Nat.lt_of_lt_of_le l100 hb5.size
  replace l101 := Nat.lt_of_lt_of_le l101 hb5.size
  replace hx1 := hx1.to hb5
  replace hx2 := hx2.to hb5
  replace hx3 := hx3.to hb5
  replace hy1 := hy1.to hb5
  replace hy2 := hy2.to hb5
  replace hy3 := hy3.to hb5
  replace hn := hn.to hb5
  replace hv11 := hv11.to hb5
  replace hv12 := hv12.to hb5
  replace hv13 := hv13.to hb5
  replace HW := Lib.hid (hstep HW hb5)
  clear hb5
  obtain ⟨g2, hg2⟩ : ∃ p, p = w4.heap.size := ⟨_, rfl⟩
  rw [← hg2] at t2_0 t2_1 l102 n102 ⊢
  clear hg2
  go_region_held3 (fun w' => w'.cell? ⟨g0, 1, none⟩ = some (.slice N1 (ln (ab (na y.norm))) cN1) ∧ w'.cell? ⟨g1, 0, none⟩ = some (.bool (sn (na (x.mul y.conj)))) ∧ w'.cell? ⟨g1, 1, none⟩ = some (.slice V11 (ln (ab (na (x.mul y.conj)))) cV11) ∧ w'.cell? ⟨g1, 2, none⟩ = some (.bool (sn (nb (x.mul y.conj)))) ∧ w'.cell? ⟨g1, 3, none⟩ = some (.slice V12 (ln (ab (nb (x.mul y.conj)))) cV12) ∧ w'.cell? ⟨g1, 4, none⟩ = some (.slice V13 (ln (nd (x.mul y.conj))) cV13) ∧ w'.cell? ⟨g2, 0, none⟩ = some (.bool false) ∧ w'.cell? ⟨g2, 1, none⟩ = some (.slice N3 (ln (nd y.norm)) cN3)) (first | with_reducible exact ⟨t0_1, t1_0, t1_1, t1_2, t1_3, t1_4, t2_0, t2_1⟩ | with_reducible exact ⟨(keeps (keeps (keeps (keeps (keeps t0_1 n100) n100) n100) n100) n100), (keeps (keeps (keeps (keeps (keeps t1_0 n101) n101) n101) n101) n101), (keeps (keeps (keeps (keeps (keeps t1_1 n101) n101) n101) n101) n101), (keeps (keeps (keeps (keeps (keeps t1_2 n101) n101) n101) n101) n101), (keeps (keeps (keeps (keeps (keeps t1_3 n101) n101) n101) n101) n101), (keeps (keeps (keeps (keeps (keeps t1_4 n101) n101) n101) n101) n101), (keeps (keeps (keeps (keeps (keeps t2_0 n102) n102) n102) n102) n102), (keeps (keeps (keeps (keeps (keeps t2_1 n102) n102) n102) n102) n102)⟩ | exact ⟨t0_1, t1_0, t1_1, t1_2, t1_3, t1_4, t2_0, t2_1⟩) (first
    | (have _ := mk2; go_at_call 100; refine (rmake_any (na (x.mul y.conj) * (nd y.norm : Int)) (nb (x.mul y.conj) * (nd y.norm : Int)) (nd (x.mul y.conj) * ab (na y.norm)) S1 S2 S3 d1 d2 d3 _ (by exact h1) (by exact h2) (by exact h3) (by have h := (ab_muln_ln HSZ.out.1 HSN.out.2.2); have h5 := HSZ.out; have h6 := HSN.out; unfold sz at h5 h6; omega) (by have h := (ab_muln_ln HSZ.out.2.1 HSN.out.2.2); have h5 := HSZ.out; have h6 := HSN.out; unfold sz at h5 h6; omega) (by have h := (nat_mul_ln HSZ.out.2.2 HSN.out.1); have h5 := HSZ.out; have h6 := HSN.out; unfold sz at h5 h6; omega) HN.out).mono ?_; rintro e w9 ⟨Z1, Z2, Z3, cZ1, cZ2, cZ3, rfl, hq, hb9⟩; replace s0_0 := keepc hb9 s0_0 l0; replace s0_1 := keepc hb9 s0_1 l0; replace s0_2 := keepc hb9 s0_2 l0; replace s0_3 := keepc hb9 s0_3 l0; replace s0_4 := keepc hb9 s0_4 l0; replace s1_0 := keepc hb9 s1_0 l1; replace s1_1 := keepc hb9 s1_1 l1; replace s1_2 := keepc hb9 s1_2 l1; replace s1_3 := keepc hb9 s1_3 l1; replace s1_4 := keepc hb9 s1_4 l1; replace t0_0 := keepc hb9 t0_0 l100; replace t0_1 := keepc hb9 t0_1 l100; replace t0_2 := keepc hb9 t0_2 l100; replace t0_3 := keepc hb9 t0_3 l100; replace t0_4 := keepc hb9 t0_4 l100; replace t1_0 := keepc hb9 t1_0 l101; replace t1_1 := keepc hb9 t1_1 l101; replace t1_2 := keepc hb9 t1_2 l101; replace t1_3 := keepc hb9 t1_3 l101; replace t1_4 := keepc hb9 t1_4 l101; replace t2_0 := keepc hb9 t2_0 l102; replace t2_1 := keepc hb9 t2_1 l102; replace r0 := keepc hb9 r0 l2; replace f0 := keepf hb9 f0 l2; replace r1 := keepc hb9 r1 l2; replace f1 := keepf hb9 f1 l2; replace r2 := keepc hb9 r2 l2; replace f2 := keepf hb9 f2 l2; replace r3 := keepc hb9 r3 l2; replace f3 := keepf hb9 f3 l2; replace r4 := keepc hb9 r4 l2; replace f4 := keepf hb9 f4 l2; replace l0 := Nat.lt_of_lt_of_le l0 hb9.size; replace l1 := Nat.lt_of_lt_of_le l1 hb9.size; replace l2 := Nat.lt_of_lt_of_le l2 hb9.size; replace l100 := Nat.lt_of_lt_of_le l100 hb9.size; replace l101 := Nat.lt_of_lt_of_le l101 hb9.size; replace l102 := Nat.lt_of_lt_of_le l102 hb9.size; replace hx1 := hx1.to hb9; replace hx2 := hx2.to hb9; replace hx3 := hx3.to hb9; replace hy1 := hy1.to hb9; replace hy2 := hy2.to hb9; replace hy3 := hy3.to hb9; replace hn := hn.to hb9; replace hv11 := hv11.to hb9; replace hv12 := hv12.to hb9; replace hv13 := hv13.to hb9; replace h1 := h1.to hb9; replace h2 := h2.to hb9; replace h3 := h3.to hb9; replace HW := Lib.hid (hstep HW hb9); clear hb9; have mk3 : True := trivial)
    | (have _ := mk1; go_at_call 103; refine (rnatMul_any (nd (x.mul y.conj)) (ab (na y.norm)) V13 N1 cV13 cN1 _ (by exact hv13) (by exact hn.1) (by have := HSZ.out; unfold sz at this; omega) (by have := HSN.out; unfold sz at this; omega)).mono ?_; rintro e w8 ⟨S3, d3, rfl, h3, hb8⟩; replace s0_0 := keepc hb8 s0_0 l0; replace s0_1 := keepc hb8 s0_1 l0; replace s0_2 := keepc hb8 s0_2 l0; replace s0_3 := keepc hb8 s0_3 l0; replace s0_4 := keepc hb8 s0_4 l0; replace s1_0 := keepc hb8 s1_0 l1; replace s1_1 := keepc hb8 s1_1 l1; replace s1_2 := keepc hb8 s1_2 l1; replace s1_3 := keepc hb8 s1_3 l1; replace s1_4 := keepc hb8 s1_4 l1; replace t0_0 := keepc hb8 t0_0 l100; replace t0_1 := keepc hb8 t0_1 l100; replace t0_2 := keepc hb8 t0_2 l100; replace t0_3 := keepc hb8 t0_3 l100; replace t0_4 := keepc hb8 t0_4 l100; replace t1_0 := keepc hb8 t1_0 l101; replace t1_1 := keepc hb8 t1_1 l101; replace t1_2 := keepc hb8 t1_2 l101; replace t1_3 := keepc hb8 t1_3 l101; replace t1_4 := keepc hb8 t1_4 l101; replace t2_0 := keepc hb8 t2_0 l102; replace t2_1 := keepc hb8 t2_1 l102; replace r0 := keepc hb8 r0 l2; replace f0 := keepf hb8 f0 l2; replace r1 := keepc hb8 r1 l2; replace f1 := keepf hb8 f1 l2; replace r2 := keepc hb8 r2 l2; replace f2 := keepf hb8 f2 l2; replace r3 := keepc hb8 r3 l2; replace f3 := keepf hb8 f3 l2; replace r4 := keepc hb8 r4 l2; replace f4 := keepf hb8 f4 l2; replace l0 := Nat.lt_of_lt_of_le l0 hb8.size; replace l1 := Nat.lt_of_lt_of_le l1 hb8.size; replace l2 := Nat.lt_of_lt_of_le l2 hb8.size; replace l100 := Nat.lt_of_lt_of_le l100 hb8.size; replace l101 := Nat.lt_of_lt_of_le l101 hb8.size; replace l102 := Nat.lt_of_lt_of_le l102 hb8.size; replace hx1 := hx1.to hb8; replace hx2 := hx2.to hb8; replace hx3 := hx3.to hb8; replace hy1 := hy1.to hb8; replace hy2 := hy2.to hb8; replace hy3 := hy3.to hb8; replace hn := hn.to hb8; replace hv11 := hv11.to hb8; replace hv12 := hv12.to hb8; replace hv13 := hv13.to hb8; replace h1 := h1.to hb8; replace h2 := h2.to hb8; replace HW := Lib.hid (hstep HW hb8); clear hb8; have mk2 : True := trivial)
    | (have _ := mk0; go_at_call 102; refine (rtimes_n (nb (x.mul y.conj)) (nd y.norm) V12 N3 cV12 cN3 _ (by exact hv12) (by exact hn.2.2) (by have := HSZ.out; unfold sz at this; omega) (by have := HSN.out; unfold sz at this; omega)).mono ?_; rintro e w7 ⟨S2, d2, rfl, h2, hb7⟩; replace s0_0 := keepc hb7 s0_0 l0; replace s0_1 := keepc hb7 s0_1 l0; replace s0_2 := keepc hb7 s0_2 l0; replace s0_3 := keepc hb7 s0_3 l0; replace s0_4 := keepc hb7 s0_4 l0; replace s1_0 := keepc hb7 s1_0 l1; replace s1_1 := keepc hb7 s1_1 l1; replace s1_2 := keepc hb7 s1_2 l1; replace s1_3 := keepc hb7 s1_3 l1; replace s1_4 := keepc hb7 s1_4 l1; replace t0_0 := keepc hb7 t0_0 l100; replace t0_1 := keepc hb7 t0_1 l100; replace t0_2 := keepc hb7 t0_2 l100; replace t0_3 := keepc hb7 t0_3 l100; replace t0_4 := keepc hb7 t0_4 l100; replace t1_0 := keepc hb7 t1_0 l101; replace t1_1 := keepc hb7 t1_1 l101; replace t1_2 := keepc hb7 t1_2 l101; replace t1_3 := keepc hb7 t1_3 l101; replace t1_4 := keepc hb7 t1_4 l101; replace t2_0 := keepc hb7 t2_0 l102; replace t2_1 := keepc hb7 t2_1 l102; replace r0 := keepc hb7 r0 l2; replace f0 := keepf hb7 f0 l2; replace r1 := keepc hb7 r1 l2; replace f1 := keepf hb7 f1 l2; replace r2 := keepc hb7 r2 l2; replace f2 := keepf hb7 f2 l2; replace r3 := keepc hb7 r3 l2; replace f3 := keepf hb7 f3 l2; replace r4 := keepc hb7 r4 l2; replace f4 := keepf hb7 f4 l2; replace l0 := Nat.lt_of_lt_of_le l0 hb7.size; replace l1 := Nat.lt_of_lt_of_le l1 hb7.size; replace l2 := Nat.lt_of_lt_of_le l2 hb7.size; replace l100 := Nat.lt_of_lt_of_le l100 hb7.size; replace l101 := Nat.lt_of_lt_of_le l101 hb7.size; replace l102 := Nat.lt_of_lt_of_le l102 hb7.size; replace hx1 := hx1.to hb7; replace hx2 := hx2.to hb7; replace hx3 := hx3.to hb7; replace hy1 := hy1.to hb7; replace hy2 := hy2.to hb7; replace hy3 := hy3.to hb7; replace hn := hn.to hb7; replace hv11 := hv11.to hb7; replace hv12 := hv12.to hb7; replace hv13 := hv13.to hb7; replace h1 := h1.to hb7; replace HW := Lib.hid (hstep HW hb7); clear hb7; have mk1 : True := trivial)
    | (go_at_call 102; refine (rtimes_n (na (x.mul y.conj)) (nd y.norm) V11 N3 cV11 cN3 _ (by exact hv11) (by exact hn.2.2) (by have := HSZ.out; unfold sz at this; omega) (by have := HSN.out; unfold sz at this; omega)).mono ?_; rintro e w6 ⟨S1, d1, rfl, h1, hb6⟩; have hb6 := undrew hb6; replace s0_0 := keepc hb6 s0_0 l0; replace s0_1 := keepc hb6 s0_1 l0; replace s0_2 := keepc hb6 s0_2 l0; replace s0_3 := keepc hb6 s0_3 l0; replace s0_4 := keepc hb6 s0_4 l0; replace s1_0 := keepc hb6 s1_0 l1; replace s1_1 := keepc hb6 s1_1 l1; replace s1_2 := keepc hb6 s1_2 l1; replace s1_3 := keepc hb6 s1_3 l1; replace s1_4 := keepc hb6 s1_4 l1; replace t0_0 := keepc hb6 t0_0 l100; replace t0_1 := keepc hb6 t0_1 l100; replace t0_2 := keepc hb6 t0_2 l100; replace t0_3 := keepc hb6 t0_3 l100; replace t0_4 := keepc hb6 t0_4 l100; replace t1_0 := keepc hb6 t1_0 l101; replace t1_1 := keepc hb6 t1_1 l101; replace t1_2 := keepc hb6 t1_2 l101; replace t1_3 := keepc hb6 t1_3 l101; replace t1_4 := keepc hb6 t1_4 l101; replace t2_0 := keepc hb6 t2_0 l102; replace t2_1 := keepc hb6 t2_1 l102; replace r0 := keepc hb6 r0 l2; replace f0 := keepf hb6 f0 l2; replace r1 := keepc hb6 r1 l2; replace f1 := keepf hb6 f1 l2; replace r2 := keepc hb6 r2 l2; replace f2 := keepf hb6 f2 l2; replace r3 := keepc hb6 r3 l2; replace f3 := keepf hb6 f3 l2; replace r4 := keepc hb6 r4 l2; replace f4 := keepf hb6 f4 l2; replace l0 := Nat.lt_of_lt_of_le l0 hb6.size; replace l1 := Nat.lt_of_lt_of_le l1 hb6.size; replace l2 := Nat.lt_of_lt_of_le l2 hb6.size; replace l100 := Nat.lt_of_lt_of_le l100 hb6.size; replace l101 := Nat.lt_of_lt_of_le l101 hb6.size; replace l102 := Nat.lt_of_lt_of_le l102 hb6.size; replace hx1 := hx1.to hb6; replace hx2 := hx2.to hb6; replace hx3 := hx3.to hb6; replace hy1 := hy1.to hb6; replace hy2 := hy2.to hb6; replace hy3 := hy3.to hb6; replace hn := hn.to hb6; replace hv11 := hv11.to hb6; replace hv12 := hv12.to hb6; replace hv13 := hv13.to hb6; replace HW := Lib.hid (hstep HW hb6); clear hb6; have mk0 : True := trivial))
  go_wp2_with fail
  exact bodyPost_ret (v := .tuple #[.agg #[.bool (sn (na (fr (na (x.mul y.conj) * (nd y.norm : Int)) (nb (x.mul y.conj) * (nd y.norm : Int)) (nd (x.mul y.conj) * ab (na y.norm))))), .slice Z1 (ln (ab (na (fr (na (x.mul y.conj) * (nd y.norm : Int)) (nb (x.mul y.conj) * (nd y.norm : Int)) (nd (x.mul y.conj) * ab (na y.norm)))))) cZ1, .bool (sn (nb (fr (na (x.mul y.conj) * (nd y.norm : Int)) (nb (x.mul y.conj) * (nd y.norm : Int)) (nd (x.mul y.conj) * ab (na y.norm))))), .slice Z2 (ln (ab (nb (fr (na (x.mul y.conj) * (nd y.norm : Int)) (nb (x.mul y.conj) * (nd y.norm : Int)) (nd (x.mul y.conj) * ab (na y.norm)))))) cZ2, .slice Z3 (ln (nd (fr (na (x.mul y.conj) * (nd y.norm : Int)) (nb (x.mul y.conj) * (nd y.norm : Int)) (nd (x.mul y.conj) * ab (na y.norm))))) cZ3], .int .i64 0]) (by simp [results, Tryz.results33, go_sem, r0, r1, r2, r3, r4, f0, f1, f2, f3, f4]) rfl (retNumCE_fin HW hq (by omega) r0)
end Go.Proofs.YtgpmlhpgdalheaaGreat
