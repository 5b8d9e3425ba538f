/- Part 6 of the proof. -/
import Derived.Test.YtdpjknjlhchmcaaGreatNP5
import Derived.Test.YtdpjknjlhchmcaaGreatNP1
import Derived.RegionTactic
import Derived.Deep.DeepCutAuto
import Derived.Test.YtdpjknjlhchmcaaGreatNP2
namespace Go.Proofs.YtdpjknjlhchmcaaGreat
open Go.RowKit Pl
set_option linter.unusedVariables false
set_option linter.unusedSimpArgs false
theorem sub_top64 {a b c d : Nat} (ha : a < 4294967296) (hb : b < 4294967296) (hc : c ≤ 1) (h : bw a b c = d) : IntKind.u64.wrap (IntKind.u64.wrap ((a : Int) - (c : Int)) - (b : Int)) / 9223372036854775808 = (d : Int) := by
  rw [← h]; unfold bw; simp only [IntKind.wrap, IntKind.bits, IntKind.signed]
  by_cases hh : a < b + c
  · rw [if_pos hh]; simp; omega
  · rw [if_neg hh]; simp; omega
theorem sub_low64 {a b c d : Nat} (ha : a < 4294967296) (hb : b < 4294967296) (hc : c ≤ 1) (h : (a + 8589934592 - b - c) % 4294967296 = d) : IntKind.u64.wrap (IntKind.u64.wrap ((a : Int) - (c : Int)) - (b : Int)) % 4294967296 = (d : Int) := by
  rw [← h]; simp only [IntKind.wrap, IntKind.bits, IntKind.signed]
  simp; omega
theorem sub_top64' {a b c d : Nat} (ha : a < 4294967296) (hb : b = 0) (hc : c ≤ 1) (h : bw a b c = d) : IntKind.u64.wrap ((a : Int) - (c : Int)) / 9223372036854775808 = (d : Int) := by
  rw [← h, hb]; unfold bw; simp only [IntKind.wrap, IntKind.bits, IntKind.signed]
  by_cases hh : a < 0 + c
  · rw [if_pos hh]; simp; omega
  · rw [if_neg hh]; simp; omega
theorem sub_low64' {a b c d : Nat} (ha : a < 4294967296) (hb : b = 0) (hc : c ≤ 1) (h : (a + 8589934592 - b - c) % 4294967296 = d) : IntKind.u64.wrap ((a : Int) - (c : Int)) % 4294967296 = (d : Int) := by
  rw [← h, hb]; simp only [IntKind.wrap, IntKind.bits, IntKind.signed]
  simp; omega
set_option maxHeartbeats 1000000 in
theorem rnatAdd_ge (x y : Nat) (A B : Option Addr) (c d : Nat) (w : World) (hx : Nat32 w A x) (hy : Nat32 w B y) (hbx : ln x ≤ 35184372088832) (hl : ln y ≤ ln x) :
    Calls Tryz.prog 131 #[.slice A (ln x) c, .slice B (ln y) d] w (RetNatC w (x + y)) := by
  have hmk := mk_words (ln x + 1) (by omega)
  have ec : ((ln x + 1 : Nat) : Int) = (ln x : Int) + 1 := by omega
  rw [ec] at hmk
  clear ec
  have hs : decide (ln x < ln y) = false := by simpa using hl
  have hle : ln y ≤ ln x := by omega
  clear hl
  go_enter Tryz.func131, Tryz.ntmps131
  go_wp2_with fail
  have hN : x + y < 4294967296 ^ (ln x + 1) := lt_of_ln (by have := ln_add x y; omega)
  have hrow := (World.rowIs_made w (.int .u32 0) (ln x + 1) 127).congr (g := part (x + y) 0) fun j _ => (part_zero _ _).symm
  have hbel := (Below.refl w.heap.size w).alloc (Nat.le_refl _) (.cells (madeCells #[.int .u32 0] (ln x + 1)) 127)
  clear hmk
  go_loopw [6, 7] (fun c i wr => ∃ k : Nat, k ≤ ln x ∧ i = .int .i64 k ∧ c = .int .u64 (cr x y k : Nat) ∧ wr.rowIs w.heap.size 127 (ln x + 1) (part (x + y) k) ∧ Below w.heap.size w wr) (fun _ i _ => ln x - (intOf i).toNat)
  case atStart => exact ⟨0, Nat.zero_le _, rfl, by rw [cr_zero]; rfl, hrow, hbel⟩
  case round =>
    obtain ⟨k, hk, rfl, rfl, hrowk, hbelk⟩ := hrel
    clear hrow hbel
    have hc1 := cr_le x y k
    by_cases hlt : k < ln x
    · have hx0 : x ≠ 0 := fun e => by rw [e, ln_zero] at hlt; omega
      obtain ⟨b, rfl, hb, hcx⟩ := hx hx0
      have hxk := (hbelk.cell (p := ⟨b, k, none⟩) hb).trans (hcx k hlt)
      have hst := hrowk.cell (i := k) (by omega)
      have hfr := hrowk.frozen k
      have b1 := wd_lt x k
      have b2 := wd_lt y k
      clear hcx
      by_cases hly : k < ln y
      · have hy0 : y ≠ 0 := fun e => by rw [e, ln_zero] at hly; omega
        obtain ⟨b', rfl, hb', hcy⟩ := hy hy0
        have hyk := (hbelk.cell (p := ⟨b', k, none⟩) hb').trans (hcy k hly)
        clear hcy
        go_wp2
        go_roundw
        case rel => exact ⟨k + 1, by omega, by go_num, int_val (by rw [← cr_step]; omega), (hrowk.set _ _).congr fun j _ => part_step _ _ _ _ (int_val (by rw [← cr_word]; omega)), hbelk.setCell (by simp) _⟩
        case measure => simp [intOf]; omega
      · have hyz := wd_high (n := y) (k := k) (by omega)
        go_wp2
        go_roundw
        case rel => exact ⟨k + 1, by omega, by go_num, int_val (by rw [← cr_step, hyz]; omega), (hrowk.set _ _).congr fun j _ => part_step _ _ _ _ (int_val (by rw [← cr_word, hyz]; omega)), hbelk.setCell (by simp) _⟩
        case measure => simp [intOf]; omega
    · obtain rfl : k = ln x := by omega
      have hst := hrowk.cell (i := ln x) (by omega)
      have hfr := hrowk.frozen (ln x)
      have htop := cr_top (lt_ln x) (lt_of_ln hle)
      have hrow2 := (hrowk.set (ln x) (.int .u32 (cr x y (ln x) : Nat))).congr (g := part (x + y) (ln x + 1)) fun j _ => part_step _ _ _ _ (by rw [htop])
      have hbel2 := hbelk.setCell (p := ⟨w.heap.size, ln x, none⟩) (Nat.le_refl _) (.int .u32 (cr x y (ln x) : Nat))
      have HT := Lib.hid htop
      clear htop
      go_wp2_with fail
      refine (rtrim_any _ w.heap.size (ln x + 1) (ln x + 1) (x + y) (by omega) (by omega) hN fun j hj => by rw [hrow2.cell hj, part_below hj]).mono ?_
      rintro e w' ⟨rfl, rfl⟩
      go_wp2
      go_ret
      exact ⟨_, _, rfl, Nat32.ofRow hrow2 (ln_le hN) fun j hj => part_below (by have := ln_le hN; omega), hbel2⟩
set_option maxHeartbeats 1000000 in
theorem rnatAdd_lt (x y : Nat) (A B : Option Addr) (c d : Nat) (w : World) (hx : Nat32 w A x) (hy : Nat32 w B y) (hbx : ln x ≤ 35184372088832) (hl : ln y < ln x) :
    Calls Tryz.prog 131 #[.slice B (ln y) d, .slice A (ln x) c] w (RetNatC w (x + y)) := by
  have hmk := mk_words (ln x + 1) (by omega)
  have ec : ((ln x + 1 : Nat) : Int) = (ln x : Int) + 1 := by omega
  rw [ec] at hmk
  clear ec
  have hs : decide (ln y < ln x) = true := by simpa using hl
  have hle : ln y ≤ ln x := by omega
  clear hl
  go_enter Tryz.func131, Tryz.ntmps131
  go_wp2_with fail
  have hN : x + y < 4294967296 ^ (ln x + 1) := lt_of_ln (by have := ln_add x y; omega)
  have hrow := (World.rowIs_made w (.int .u32 0) (ln x + 1) 127).congr (g := part (x + y) 0) fun j _ => (part_zero _ _).symm
  have hbel := (Below.refl w.heap.size w).alloc (Nat.le_refl _) (.cells (madeCells #[.int .u32 0] (ln x + 1)) 127)
  clear hmk
  go_loopw [6, 7] (fun c i wr => ∃ k : Nat, k ≤ ln x ∧ i = .int .i64 k ∧ c = .int .u64 (cr x y k : Nat) ∧ wr.rowIs w.heap.size 127 (ln x + 1) (part (x + y) k) ∧ Below w.heap.size w wr) (fun _ i _ => ln x - (intOf i).toNat)
  case atStart => exact ⟨0, Nat.zero_le _, rfl, by rw [cr_zero]; rfl, hrow, hbel⟩
  case round =>
    obtain ⟨k, hk, rfl, rfl, hrowk, hbelk⟩ := hrel
    clear hrow hbel
    have hc1 := cr_le x y k
    by_cases hlt : k < ln x
    · have hx0 : x ≠ 0 := fun e => by rw [e, ln_zero] at hlt; omega
      obtain ⟨b, rfl, hb, hcx⟩ := hx hx0
      have hxk := (hbelk.cell (p := ⟨b, k, none⟩) hb).trans (hcx k hlt)
      have hst := hrowk.cell (i := k) (by omega)
      have hfr := hrowk.frozen k
      have b1 := wd_lt x k
      have b2 := wd_lt y k
      clear hcx
      by_cases hly : k < ln y
      · have hy0 : y ≠ 0 := fun e => by rw [e, ln_zero] at hly; omega
        obtain ⟨b', rfl, hb', hcy⟩ := hy hy0
        have hyk := (hbelk.cell (p := ⟨b', k, none⟩) hb').trans (hcy k hly)
        clear hcy
        go_wp2
        go_roundw
        case rel => exact ⟨k + 1, by omega, by go_num, int_val (by rw [← cr_step]; omega), (hrowk.set _ _).congr fun j _ => part_step _ _ _ _ (int_val (by rw [← cr_word]; omega)), hbelk.setCell (by simp) _⟩
        case measure => simp [intOf]; omega
      · have hyz := wd_high (n := y) (k := k) (by omega)
        go_wp2
        go_roundw
        case rel => exact ⟨k + 1, by omega, by go_num, int_val (by rw [← cr_step, hyz]; omega), (hrowk.set _ _).congr fun j _ => part_step _ _ _ _ (int_val (by rw [← cr_word, hyz]; omega)), hbelk.setCell (by simp) _⟩
        case measure => simp [intOf]; omega
    · obtain rfl : k = ln x := by omega
      have hst := hrowk.cell (i := ln x) (by omega)
      have hfr := hrowk.frozen (ln x)
      have htop := cr_top (lt_ln x) (lt_of_ln hle)
      have hrow2 := (hrowk.set (ln x) (.int .u32 (cr x y (ln x) : Nat))).congr (g := part (x + y) (ln x + 1)) fun j _ => part_step _ _ _ _ (by rw [htop])
      have hbel2 := hbelk.setCell (p := ⟨w.heap.size, ln x, none⟩) (Nat.le_refl _) (.int .u32 (cr x y (ln x) : Nat))
      have HT := Lib.hid htop
      clear htop
      go_wp2_with fail
      refine (rtrim_any _ w.heap.size (ln x + 1) (ln x + 1) (x + y) (by omega) (by omega) hN fun j hj => by rw [hrow2.cell hj, part_below hj]).mono ?_
      rintro e w' ⟨rfl, rfl⟩
      go_wp2
      go_ret
      exact ⟨_, _, rfl, Nat32.ofRow hrow2 (ln_le hN) fun j hj => part_below (by have := ln_le hN; omega), hbel2⟩
/-- 'NatAdd'. -/
theorem rnatAdd_any (x y : Nat) (A B : Option Addr) (c d : Nat) (w : World) (hx : Nat32 w A x) (hy : Nat32 w B y) (hbx : ln x ≤ 35184372088832) (hby : ln y ≤ 35184372088832) :
    Calls Tryz.prog 131 #[.slice A (ln x) c, .slice B (ln y) d] w (RetNatC w (x + y)) := by
  rcases Nat.lt_or_ge (ln x) (ln y) with h | h
  · rw [Nat.add_comm]; exact rnatAdd_lt y x B A d c w hy hx hby h
  · exact rnatAdd_ge x y A B c d w hx hy hbx h
set_option maxHeartbeats 1000000 in
/-- 'NatSub'. -/
theorem rnatSub_any (x y : Nat) (A B : Option Addr) (c d : Nat) (w : World) (hx : Nat32 w A x) (hy : Nat32 w B y) (hbx : ln x ≤ 35184372088832) (hle : y ≤ x) :
    Calls Tryz.prog 133 #[.slice A (ln x) c, .slice B (ln y) d] w (RetNatC w (x - y)) := by
  have hmk := mk_words (ln x) (by omega)
  have hl := ln_mono hle
  go_enter Tryz.func133, Tryz.ntmps133
  go_wp2_with fail
  have hN : x - y < 4294967296 ^ ln x := lt_of_ln (ln_mono (Nat.sub_le _ _))
  have hrow := (World.rowIs_made w (.int .u32 0) (ln x) 127).congr (g := part (x - y) 0) fun j _ => (part_zero _ _).symm
  have hbel := (Below.refl w.heap.size w).alloc (Nat.le_refl _) (.cells (madeCells #[.int .u32 0] (ln x)) 127)
  clear hmk
  have HLE := Lib.hid hle
  clear hle
  go_loopw [6, 7] (fun c i wr => ∃ k : Nat, k ≤ ln x ∧ i = .int .i64 k ∧ c = .int .u64 (sb x y k : Nat) ∧ wr.rowIs w.heap.size 127 (ln x) (part (x - y) k) ∧ Below w.heap.size w wr) (fun _ i _ => ln x - (intOf i).toNat)
  case atStart => exact ⟨0, Nat.zero_le _, rfl, by rw [sb_zero]; rfl, hrow, hbel⟩
  case round =>
    obtain ⟨k, hk, rfl, rfl, hrowk, hbelk⟩ := hrel
    clear hrow hbel
    have hc1 := sb_le x y k
    by_cases hlt : k < ln x
    · have hx0 : x ≠ 0 := fun e => by rw [e, ln_zero] at hlt; omega
      obtain ⟨b, rfl, hb, hcx⟩ := hx hx0
      have hxk := (hbelk.cell (p := ⟨b, k, none⟩) hb).trans (hcx k hlt)
      have hst := hrowk.cell (i := k) (by omega)
      have hfr := hrowk.frozen k
      have b1 := wd_lt x k
      have b2 := wd_lt y k
      have e1 := sb_word k HLE.out
      have e2 := sb_step x y k
      have E1 := Lib.hid e1
      have E2 := Lib.hid e2
      clear hcx e1 e2
      by_cases hly : k < ln y
      · have hy0 : y ≠ 0 := fun e => by rw [e, ln_zero] at hly; omega
        obtain ⟨b', rfl, hb', hcy⟩ := hy hy0
        have hyk := (hbelk.cell (p := ⟨b', k, none⟩) hb').trans (hcy k hly)
        clear hcy
        go_wp2
        go_roundw
        case rel => exact ⟨k + 1, by omega, by go_num, int_val (sub_top64 b1 b2 hc1 E2.out), (hrowk.set _ _).congr fun j _ => part_step _ _ _ _ (int_val (sub_low64 b1 b2 hc1 E1.out)), hbelk.setCell (by simp) _⟩
        case measure => simp [intOf]; omega
      · have hyz := wd_high (n := y) (k := k) (by omega)
        have HYZ := Lib.hid hyz
        clear hyz
        go_wp2
        go_roundw
        case rel => exact ⟨k + 1, by omega, by go_num, int_val (sub_top64' b1 HYZ.out hc1 E2.out), (hrowk.set _ _).congr fun j _ => part_step _ _ _ _ (int_val (sub_low64' b1 HYZ.out hc1 E1.out)), hbelk.setCell (by simp) _⟩
        case measure => simp [intOf]; omega
    · obtain rfl : k = ln x := by omega
      go_wp2_with fail
      refine (rtrim_any _ w.heap.size (ln x) (ln x) (x - y) (by omega) (by omega) hN fun j hj => by rw [hrowk.cell hj, part_below hj]).mono ?_
      rintro e w' ⟨rfl, rfl⟩
      go_wp2
      go_ret
      exact ⟨_, _, rfl, Nat32.ofRow hrowk (ln_le hN) fun j hj => part_below (by have := ln_le hN; omega), hbelk⟩
set_option maxHeartbeats 1000000 in
/-- 'NatMul'. -/
theorem rnatMul_any (x y : Nat) (A B : Option Addr) (c d : Nat) (w : World) (hx : Nat32 w A x) (hy : Nat32 w B y) (hbx : ln x ≤ 35184372088832) (hby : ln y ≤ 35184372088832) :
    Calls Tryz.prog 110 #[.slice A (ln x) c, .slice B (ln y) d] w (RetNatC w (x * y)) := by
  have hmk := mk_words (ln x + ln y) (by omega)
  have ec : ((ln x + ln y : Nat) : Int) = (ln x : Int) + (ln y : Int) := by omega
  rw [ec] at hmk
  clear ec
  have hN : x * y < 4294967296 ^ (ln x + ln y) := lt_of_ln (ln_mul x y)
  go_enter Tryz.func110, Tryz.ntmps110
  go_wp2_with fail
  have hrow := (World.rowIs_made w (.int .u32 0) (ln x + ln y) 127).congr (g := rowN (pp x y 0)) fun j _ => by rw [pp_zero, rowN_zero]
  have hbel := (Below.refl w.heap.size w).alloc (Nat.le_refl _) (.cells (madeCells #[.int .u32 0] (ln x + ln y)) 127)
  clear hmk
  go_loopw [6] (fun i wr => ∃ k : Nat, k ≤ ln x ∧ i = .int .i64 k ∧ wr.rowIs w.heap.size 127 (ln x + ln y) (rowN (pp x y k)) ∧ Below w.heap.size w wr) (fun i _ => ln x - (intOf i).toNat)
  case atStart => exact ⟨0, Nat.zero_le _, rfl, hrow, hbel⟩
  case round =>
    obtain ⟨i, hi, rfl, hrowi, hbeli⟩ := hrel
    clear hrow hbel
    obtain ⟨wo, rfl⟩ : ∃ wo : World, wo = wr := ⟨_, rfl⟩
    by_cases hlt : i < ln x
    · have hx0 : x ≠ 0 := fun e => by rw [e, ln_zero] at hlt; omega
      obtain ⟨b, rfl, hb, hcx⟩ := hx hx0
      have HX := Lib.hid hcx
      clear hcx
      have b1 := wd_lt x i
      go_wp2_with fail
      have hrow0 := hrowi.congr (g := rowM (mt (pp x y i) y (wd x i) i 0) (pp x y i) (i + 0)) fun j _ => mul_start _ _ _ _ _
      go_loopw [7, 8] (fun c kk wr => ∃ k : Nat, k ≤ ln y ∧ kk = .int .i64 k ∧ c = .int .u64 (mc (pp x y i) y (wd x i) i k : Nat) ∧ wr.rowIs w.heap.size 127 (ln x + ln y) (rowM (mt (pp x y i) y (wd x i) i k) (pp x y i) (i + k)) ∧ Below w.heap.size w wr) (fun _ kk _ => ln y - (intOf kk).toNat)
      case atStart => exact ⟨0, Nat.zero_le _, rfl, by rw [mc_zero]; rfl, hrow0, hbeli⟩
      case round =>
        obtain ⟨k, hk, rfl, rfl, hrowk, hbelk⟩ := hrel
        clear hrow0 hrowi hbeli
        have bc := mc_lt b1 (pp x y i) y i k
        by_cases hly : k < ln y
        · have hy0 : y ≠ 0 := fun e => by rw [e, ln_zero] at hly; omega
          obtain ⟨b', rfl, hb', hcy⟩ := hy hy0
          have hxi := (hbelk.cell (p := ⟨b, i, none⟩) hb).trans (HX.out i hlt)
          have hyk := (hbelk.cell (p := ⟨b', k, none⟩) hb').trans (hcy k hly)
          clear hcy
          have hst := hrowk.cell (i := i + k) (by omega)
          rw [rowM_at] at hst
          have hfr := hrowk.frozen (i + k)
          have b2 := wd_lt y k
          have b3 := wd_lt (pp x y i) (i + k)
          have b4 := prod_le b1 b2
          have b5 : 0 ≤ (wd x i : Int) * (wd y k : Int) := Int.mul_nonneg (by omega) (by omega)
          go_wp2_with fail
          go_quiet (fail)
          go_wp2
          have e1 := mt_word (pp x y i) y (wd x i) i k
          have e2 := mt_carry (pp x y i) y (wd x i) i k
          have e3 : ((wd x i * wd y k : Nat) : Int) = (wd x i : Int) * (wd y k : Int) := Int.natCast_mul _ _
          go_roundw
          case rel => exact ⟨k + 1, by omega, by go_num, int_val (by rw [e2]; omega), (hrowk.set _ _).congr fun j _ => mul_in (int_val (by rw [e1]; omega)), (below_drewN hbelk _).setCell (by simp) _⟩
          case measure => simp [intOf]; omega
        · obtain rfl : k = ln y := by omega
          have hst := hrowk.cell (i := i + ln y) (by omega)
          have hfr := hrowk.frozen (i + ln y)
          go_wp2
          go_roundw
          case rel => exact ⟨i + 1, by omega, by go_num, (hrowk.set _ _).congr fun j _ => mul_out rfl, hbelk.setCell (by simp) _⟩
          case measure => simp [intOf]; omega
    · obtain rfl : i = ln x := by omega
      go_wp2_with fail
      refine (rtrim_any _ w.heap.size (ln x + ln y) (ln x + ln y) (x * y) (by omega) (by omega) hN fun j hj => by rw [hrowi.cell hj, pp_end]; rfl).mono ?_
      rintro e w' ⟨rfl, rfl⟩
      go_wp2
      go_ret
      exact ⟨_, _, rfl, Nat32.ofRow hrowi (ln_le hN) fun j hj => by rw [pp_end]; rfl, hbeli⟩
end Go.Proofs.YtdpjknjlhchmcaaGreat

namespace Go.Proofs.YtdpjknjlhchmcaaGreat
open Go.RowKit Pl
set_option linter.unusedVariables false
set_option linter.unusedSimpArgs false
set_option maxHeartbeats 4000000 in
theorem rplus_same (a b : Int) (A B : Option Addr) (cA cB : Nat) (w : World) (hx : Nat32 w A (ab a)) (hy : Nat32 w B (ab b)) (hbx : ln (ab a) ≤ 1099511627776) (hby : ln (ab b) ≤ 1099511627776) (h : sn a = sn b) :
    Calls Tryz.prog 108 #[.agg #[.bool (sn (a)), .slice A (ln (ab (a))) cA], .agg #[.bool (sn (b)), .slice B (ln (ab (b))) cB]] w (RetWholeC w (a + b)) := by
  have t : (sn a == sn b) = true := by rw [h]; simp
  rw [← plus_same h]
  clear h
  go_enter Tryz.func108, Tryz.ntmps108
  go_wp2_with fail
  obtain ⟨W, hW⟩ : ∃ W : World, W = (((w.alloc (.cells #[.bool (sn (a)), .slice A (ln (ab (a))) cA] 64)).alloc (.cells #[.bool (sn (b)), .slice B (ln (ab (b))) cB] 64)).alloc (.cells #[.bool false, .slice none 0 0] 64)) := ⟨_, rfl⟩
  have s0_0 : W.cell? ⟨w.heap.size, 0, none⟩ = some (.bool (sn (a))) := by subst hW; go_simp
  have s0_1 : W.cell? ⟨w.heap.size, 1, none⟩ = some (.slice A (ln (ab (a))) cA) := by subst hW; go_simp
  have s1_0 : W.cell? ⟨w.heap.size + 1, 0, none⟩ = some (.bool (sn (b))) := by subst hW; go_simp
  have s1_1 : W.cell? ⟨w.heap.size + 1, 1, none⟩ = some (.slice B (ln (ab (b))) cB) := by subst hW; go_simp
  have r0 : W.cell? ⟨w.heap.size + 1 + 1, 0, none⟩ = some (.bool false) := by subst hW; go_simp
  have f0 : W.frozen? ⟨w.heap.size + 1 + 1, 0, none⟩ = false := by subst hW; go_simp
  have r1 : W.cell? ⟨w.heap.size + 1 + 1, 1, none⟩ = some (.slice none 0 0) := by subst hW; go_simp
  have f1 : W.frozen? ⟨w.heap.size + 1 + 1, 1, none⟩ = false := by subst hW; go_simp
  have HW : Below w.heap.size w W := by subst hW; exact ((((Below.refl w.heap.size w).alloc (Nat.le_refl _) _).alloc (by simp) _).alloc (by simp; omega) _)
  have l0 : w.heap.size < W.heap.size := by subst hW; simp <;> omega
  have l1 : w.heap.size + 1 < W.heap.size := by subst hW; simp <;> omega
  have l2 : w.heap.size + 1 + 1 < W.heap.size := by subst hW; simp
  have n0 : w.heap.size ≠ w.heap.size + 1 + 1 := by omega
  have n1 : w.heap.size + 1 ≠ w.heap.size + 1 + 1 := by omega
  replace hx := hx.to HW
  replace hy := hy.to HW
  rw [← hW]
  clear hW
  replace HW := Lib.hid HW
  go_region_held3 (fun w' => w'.cell? ⟨w.heap.size, 0, none⟩ = some (.bool (sn (a))) ∧ w'.cell? ⟨w.heap.size, 1, none⟩ = some (.slice A (ln (ab (a))) cA) ∧ w'.cell? ⟨w.heap.size + 1, 1, none⟩ = some (.slice B (ln (ab (b))) cB)) (first | with_reducible exact ⟨s0_0, s0_1, s1_1⟩ | with_reducible exact ⟨(keeps (keeps s0_0 n0) n0), (keeps (keeps s0_1 n0) n0), (keeps (keeps s1_1 n1) n1)⟩ | exact ⟨s0_0, s0_1, s1_1⟩) (first
    | (go_at_call 131; refine (rnatAdd_any (ab a) (ab b) A B cA cB _ (by exact hx) (by exact hy) (by omega) (by omega)).mono ?_; rintro e w1 ⟨A1, c1, rfl, h1, hb1⟩; have hb1 := undrew hb1; replace s0_0 := keepc hb1 s0_0 l0; replace s0_1 := keepc hb1 s0_1 l0; replace s1_0 := keepc hb1 s1_0 l1; replace s1_1 := keepc hb1 s1_1 l1; replace r0 := keepc hb1 r0 l2; replace f0 := keepf hb1 f0 l2; replace r1 := keepc hb1 r1 l2; replace f1 := keepf hb1 f1 l2; replace l0 := Nat.lt_of_lt_of_le l0 hb1.size; replace l1 := Nat.lt_of_lt_of_le l1 hb1.size; replace l2 := Nat.lt_of_lt_of_le l2 hb1.size; replace hx := hx.to hb1; replace hy := hy.to hb1; replace HW := Lib.hid (hstep HW hb1); clear hb1)
    | (go_at_call 130; refine (rsigned_any (sn a) (ab a + ab b) A1 c1 _ (by exact h1)).mono ?_; rintro e w2 ⟨A2, c2, rfl, h2, hb2⟩; replace s0_0 := keepc hb2 s0_0 l0; replace s0_1 := keepc hb2 s0_1 l0; replace s1_0 := keepc hb2 s1_0 l1; replace s1_1 := keepc hb2 s1_1 l1; replace r0 := keepc hb2 r0 l2; replace f0 := keepf hb2 f0 l2; replace r1 := keepc hb2 r1 l2; replace f1 := keepf hb2 f1 l2; replace l0 := Nat.lt_of_lt_of_le l0 hb2.size; replace l1 := Nat.lt_of_lt_of_le l1 hb2.size; replace l2 := Nat.lt_of_lt_of_le l2 hb2.size; replace hx := hx.to hb2; replace hy := hy.to hb2; replace h1 := h1.to hb2; replace HW := Lib.hid (hstep HW hb2); clear hb2))
  go_wp2_with fail
  exact bodyPost_ret (v := .agg #[.bool (sn (zi (sn a) (ab a + ab b))), .slice A2 (ln (ab (zi (sn a) (ab a + ab b)))) c2]) (by simp [results, Tryz.results108, go_sem, r0, r1, f0, f1]) rfl (retWholeC_fin HW h2 (by omega) r0)
set_option maxHeartbeats 4000000 in
theorem rplus_ge (a b : Int) (A B : Option Addr) (cA cB : Nat) (w : World) (hx : Nat32 w A (ab a)) (hy : Nat32 w B (ab b)) (hbx : ln (ab a) ≤ 1099511627776) (hby : ln (ab b) ≤ 1099511627776) (h : sn a ≠ sn b) (hle : ab b ≤ ab a) :
    Calls Tryz.prog 108 #[.agg #[.bool (sn (a)), .slice A (ln (ab (a))) cA], .agg #[.bool (sn (b)), .slice B (ln (ab (b))) cB]] w (RetWholeC w (a + b)) := by
  have t : (sn a == sn b) = false := by simpa using h
  have t2 : decide (0 ≤ cmpN (ab a) (ab b)) = true := by rw [decide_eq_true_eq]; unfold cmpN; rw [if_neg (by omega)]; split <;> omega
  rw [← plus_ge h hle]
  have HL := Lib.hid hle
  clear h hle
  go_enter Tryz.func108, Tryz.ntmps108
  go_wp2_with fail
  obtain ⟨W, hW⟩ : ∃ W : World, W = (((w.alloc (.cells #[.bool (sn (a)), .slice A (ln (ab (a))) cA] 64)).alloc (.cells #[.bool (sn (b)), .slice B (ln (ab (b))) cB] 64)).alloc (.cells #[.bool false, .slice none 0 0] 64)) := ⟨_, rfl⟩
  have s0_0 : W.cell? ⟨w.heap.size, 0, none⟩ = some (.bool (sn (a))) := by subst hW; go_simp
  have s0_1 : W.cell? ⟨w.heap.size, 1, none⟩ = some (.slice A (ln (ab (a))) cA) := by subst hW; go_simp
  have s1_0 : W.cell? ⟨w.heap.size + 1, 0, none⟩ = some (.bool (sn (b))) := by subst hW; go_simp
  have s1_1 : W.cell? ⟨w.heap.size + 1, 1, none⟩ = some (.slice B (ln (ab (b))) cB) := by subst hW; go_simp
  have r0 : W.cell? ⟨w.heap.size + 1 + 1, 0, none⟩ = some (.bool false) := by subst hW; go_simp
  have f0 : W.frozen? ⟨w.heap.size + 1 + 1, 0, none⟩ = false := by subst hW; go_simp
  have r1 : W.cell? ⟨w.heap.size + 1 + 1, 1, none⟩ = some (.slice none 0 0) := by subst hW; go_simp
  have f1 : W.frozen? ⟨w.heap.size + 1 + 1, 1, none⟩ = false := by subst hW; go_simp
  have HW : Below w.heap.size w W := by subst hW; exact ((((Below.refl w.heap.size w).alloc (Nat.le_refl _) _).alloc (by simp) _).alloc (by simp; omega) _)
  have l0 : w.heap.size < W.heap.size := by subst hW; simp <;> omega
  have l1 : w.heap.size + 1 < W.heap.size := by subst hW; simp <;> omega
  have l2 : w.heap.size + 1 + 1 < W.heap.size := by subst hW; simp
  have n0 : w.heap.size ≠ w.heap.size + 1 + 1 := by omega
  have n1 : w.heap.size + 1 ≠ w.heap.size + 1 + 1 := by omega
  replace hx := hx.to HW
  replace hy := hy.to HW
  rw [← hW]
  clear hW
  replace HW := Lib.hid HW
  refine (rcmp_any (ab a) (ab b) A B cA cB _ (by exact hx) (by exact hy) (by omega)).mono ?_
  rintro e w1 ⟨rfl, hb1⟩
  replace s0_0 := keepc hb1 s0_0 l0
  replace s0_1 := keepc hb1 s0_1 l0
  replace s1_0 := keepc hb1 s1_0 l1
  replace s1_1 := keepc hb1 s1_1 l1
  replace r0 := keepc hb1 r0 l2
  replace f0 := keepf hb1 f0 l2
  replace r1 := keepc hb1 r1 l2
  replace f1 := keepf hb1 f1 l2
  replace l0 := Nat.lt_of_lt_of_le l0 hb1.size
  replace l1 := Nat.lt_of_lt_of_le l1 hb1.size
  replace l2 := Nat.lt_of_lt_of_le l2 hb1.size
  replace hx := hx.to hb1
  replace hy := hy.to hb1
  replace HW := Lib.hid (hstep HW hb1)
  clear hb1
  go_wp2_with fail
  go_region_held3 (fun w' => w'.cell? ⟨w.heap.size, 0, none⟩ = some (.bool (sn (a))) ∧ w'.cell? ⟨w.heap.size, 1, none⟩ = some (.slice A (ln (ab (a))) cA) ∧ w'.cell? ⟨w.heap.size + 1, 1, none⟩ = some (.slice B (ln (ab (b))) cB)) (first | with_reducible exact ⟨s0_0, s0_1, s1_1⟩ | with_reducible exact ⟨(keeps (keeps s0_0 n0) n0), (keeps (keeps s0_1 n0) n0), (keeps (keeps s1_1 n1) n1)⟩ | exact ⟨s0_0, s0_1, s1_1⟩) (first
    | (go_at_call 133; refine (rnatSub_any (ab a) (ab b) A B cA cB _ (by exact hx) (by exact hy) (by omega) HL.out).mono ?_; rintro e w2 ⟨A2, c2, rfl, h2, hb2⟩; have hb2 := undrew hb2; replace s0_0 := keepc hb2 s0_0 l0; replace s0_1 := keepc hb2 s0_1 l0; replace s1_0 := keepc hb2 s1_0 l1; replace s1_1 := keepc hb2 s1_1 l1; replace r0 := keepc hb2 r0 l2; replace f0 := keepf hb2 f0 l2; replace r1 := keepc hb2 r1 l2; replace f1 := keepf hb2 f1 l2; replace l0 := Nat.lt_of_lt_of_le l0 hb2.size; replace l1 := Nat.lt_of_lt_of_le l1 hb2.size; replace l2 := Nat.lt_of_lt_of_le l2 hb2.size; replace hx := hx.to hb2; replace hy := hy.to hb2; replace HW := Lib.hid (hstep HW hb2); clear hb2)
    | (go_at_call 130; refine (rsigned_any (sn a) (ab a - ab b) A2 c2 _ (by exact h2)).mono ?_; rintro e w3 ⟨A3, c3, rfl, h3, hb3⟩; replace s0_0 := keepc hb3 s0_0 l0; replace s0_1 := keepc hb3 s0_1 l0; replace s1_0 := keepc hb3 s1_0 l1; replace s1_1 := keepc hb3 s1_1 l1; replace r0 := keepc hb3 r0 l2; replace f0 := keepf hb3 f0 l2; replace r1 := keepc hb3 r1 l2; replace f1 := keepf hb3 f1 l2; replace l0 := Nat.lt_of_lt_of_le l0 hb3.size; replace l1 := Nat.lt_of_lt_of_le l1 hb3.size; replace l2 := Nat.lt_of_lt_of_le l2 hb3.size; replace hx := hx.to hb3; replace hy := hy.to hb3; replace h2 := h2.to hb3; replace HW := Lib.hid (hstep HW hb3); clear hb3))
  go_wp2_with fail
  exact bodyPost_ret (v := .agg #[.bool (sn (zi (sn a) (ab a - ab b))), .slice A3 (ln (ab (zi (sn a) (ab a - ab b)))) c3]) (by simp [results, Tryz.results108, go_sem, r0, r1, f0, f1]) rfl (retWholeC_fin HW h3 (by omega) r0)
set_option maxHeartbeats 4000000 in
theorem rplus_lt (a b : Int) (A B : Option Addr) (cA cB : Nat) (w : World) (hx : Nat32 w A (ab a)) (hy : Nat32 w B (ab b)) (hbx : ln (ab a) ≤ 1099511627776) (hby : ln (ab b) ≤ 1099511627776) (h : sn a ≠ sn b) (hle : ab a < ab b) :
    Calls Tryz.prog 108 #[.agg #[.bool (sn (a)), .slice A (ln (ab (a))) cA], .agg #[.bool (sn (b)), .slice B (ln (ab (b))) cB]] w (RetWholeC w (a + b)) := by
  have t : (sn a == sn b) = false := by simpa using h
  have t2 : decide (0 ≤ cmpN (ab a) (ab b)) = false := by rw [cmpN_lt hle]; rfl
  rw [← plus_lt h hle]
  have HL := Lib.hid (Nat.le_of_lt hle)
  clear h hle
  go_enter Tryz.func108, Tryz.ntmps108
  go_wp2_with fail
  obtain ⟨W, hW⟩ : ∃ W : World, W = (((w.alloc (.cells #[.bool (sn (a)), .slice A (ln (ab (a))) cA] 64)).alloc (.cells #[.bool (sn (b)), .slice B (ln (ab (b))) cB] 64)).alloc (.cells #[.bool false, .slice none 0 0] 64)) := ⟨_, rfl⟩
  have s0_0 : W.cell? ⟨w.heap.size, 0, none⟩ = some (.bool (sn (a))) := by subst hW; go_simp
  have s0_1 : W.cell? ⟨w.heap.size, 1, none⟩ = some (.slice A (ln (ab (a))) cA) := by subst hW; go_simp
  have s1_0 : W.cell? ⟨w.heap.size + 1, 0, none⟩ = some (.bool (sn (b))) := by subst hW; go_simp
  have s1_1 : W.cell? ⟨w.heap.size + 1, 1, none⟩ = some (.slice B (ln (ab (b))) cB) := by subst hW; go_simp
  have r0 : W.cell? ⟨w.heap.size + 1 + 1, 0, none⟩ = some (.bool false) := by subst hW; go_simp
  have f0 : W.frozen? ⟨w.heap.size + 1 + 1, 0, none⟩ = false := by subst hW; go_simp
  have r1 : W.cell? ⟨w.heap.size + 1 + 1, 1, none⟩ = some (.slice none 0 0) := by subst hW; go_simp
  have f1 : W.frozen? ⟨w.heap.size + 1 + 1, 1, none⟩ = false := by subst hW; go_simp
  have HW : Below w.heap.size w W := by subst hW; exact ((((Below.refl w.heap.size w).alloc (Nat.le_refl _) _).alloc (by simp) _).alloc (by simp; omega) _)
  have l0 : w.heap.size < W.heap.size := by subst hW; simp <;> omega
  have l1 : w.heap.size + 1 < W.heap.size := by subst hW; simp <;> omega
  have l2 : w.heap.size + 1 + 1 < W.heap.size := by subst hW; simp
  have n0 : w.heap.size ≠ w.heap.size + 1 + 1 := by omega
  have n1 : w.heap.size + 1 ≠ w.heap.size + 1 + 1 := by omega
  replace hx := hx.to HW
  replace hy := hy.to HW
  rw [← hW]
  clear hW
  replace HW := Lib.hid HW
  refine (rcmp_any (ab a) (ab b) A B cA cB _ (by exact hx) (by exact hy) (by omega)).mono ?_
  rintro e w1 ⟨rfl, hb1⟩
  replace s0_0 := keepc hb1 s0_0 l0
  replace s0_1 := keepc hb1 s0_1 l0
  replace s1_0 := keepc hb1 s1_0 l1
  replace s1_1 := keepc hb1 s1_1 l1
  replace r0 := keepc hb1 r0 l2
  replace f0 := keepf hb1 f0 l2
  replace r1 := keepc hb1 r1 l2
  replace f1 := keepf hb1 f1 l2
  replace l0 := Nat.lt_of_lt_of_le l0 hb1.size
  replace l1 := Nat.lt_of_lt_of_le l1 hb1.size
  replace l2 := Nat.lt_of_lt_of_le l2 hb1.size
  replace hx := hx.to hb1
  replace hy := hy.to hb1
  replace HW := Lib.hid (hstep HW hb1)
  clear hb1
  go_wp2_with fail
  go_region_held3 (fun w' => w'.cell? ⟨w.heap.size, 1, none⟩ = some (.slice A (ln (ab (a))) cA) ∧ w'.cell? ⟨w.heap.size + 1, 0, none⟩ = some (.bool (sn (b))) ∧ w'.cell? ⟨w.heap.size + 1, 1, none⟩ = some (.slice B (ln (ab (b))) cB)) (first | with_reducible exact ⟨s0_1, s1_0, s1_1⟩ | with_reducible exact ⟨(keeps (keeps s0_1 n0) n0), (keeps (keeps s1_0 n1) n1), (keeps (keeps s1_1 n1) n1)⟩ | exact ⟨s0_1, s1_0, s1_1⟩) (first
    | (go_at_call 133; refine (rnatSub_any (ab b) (ab a) B A cB cA _ (by exact hy) (by exact hx) (by omega) HL.out).mono ?_; rintro e w2 ⟨A2, c2, rfl, h2, hb2⟩; have hb2 := undrew hb2; replace s0_0 := keepc hb2 s0_0 l0; replace s0_1 := keepc hb2 s0_1 l0; replace s1_0 := keepc hb2 s1_0 l1; replace s1_1 := keepc hb2 s1_1 l1; replace r0 := keepc hb2 r0 l2; replace f0 := keepf hb2 f0 l2; replace r1 := keepc hb2 r1 l2; replace f1 := keepf hb2 f1 l2; replace l0 := Nat.lt_of_lt_of_le l0 hb2.size; replace l1 := Nat.lt_of_lt_of_le l1 hb2.size; replace l2 := Nat.lt_of_lt_of_le l2 hb2.size; replace hx := hx.to hb2; replace hy := hy.to hb2; replace HW := Lib.hid (hstep HW hb2); clear hb2)
    | (go_at_call 130; refine (rsigned_any (sn b) (ab b - ab a) A2 c2 _ (by exact h2)).mono ?_; rintro e w3 ⟨A3, c3, rfl, h3, hb3⟩; replace s0_0 := keepc hb3 s0_0 l0; replace s0_1 := keepc hb3 s0_1 l0; replace s1_0 := keepc hb3 s1_0 l1; replace s1_1 := keepc hb3 s1_1 l1; replace r0 := keepc hb3 r0 l2; replace f0 := keepf hb3 f0 l2; replace r1 := keepc hb3 r1 l2; replace f1 := keepf hb3 f1 l2; replace l0 := Nat.lt_of_lt_of_le l0 hb3.size; replace l1 := Nat.lt_of_lt_of_le l1 hb3.size; replace l2 := Nat.lt_of_lt_of_le l2 hb3.size; replace hx := hx.to hb3; replace hy := hy.to hb3; replace h2 := h2.to hb3; replace HW := Lib.hid (hstep HW hb3); clear hb3))
  go_wp2_with fail
  exact bodyPost_ret (v := .agg #[.bool (sn (zi (sn b) (ab b - ab a))), .slice A3 (ln (ab (zi (sn b) (ab b - ab a)))) c3]) (by simp [results, Tryz.results108, go_sem, r0, r1, f0, f1]) rfl (retWholeC_fin HW h3 (by omega) r0)
/-- 'IntAdd'. -/
theorem rplus_any (a b : Int) (A B : Option Addr) (cA cB : Nat) (w : World) (hx : Nat32 w A (ab a)) (hy : Nat32 w B (ab b)) (hbx : ln (ab a) ≤ 1099511627776) (hby : ln (ab b) ≤ 1099511627776) :
    Calls Tryz.prog 108 #[.agg #[.bool (sn (a)), .slice A (ln (ab (a))) cA], .agg #[.bool (sn (b)), .slice B (ln (ab (b))) cB]] w (RetWholeC w (a + b)) := by
  by_cases h : sn a = sn b
  · exact rplus_same a b A B cA cB w hx hy hbx hby h
  · rcases Nat.lt_or_ge (ab a) (ab b) with h2 | h2
    · exact rplus_lt a b A B cA cB w hx hy hbx hby h h2
    · exact rplus_ge a b A B cA cB w hx hy hbx hby h h2
set_option maxHeartbeats 4000000 in
theorem rsub_any (a b : Int) (A B : Option Addr) (cA cB : Nat) (w : World) (hx : Nat32 w A (ab a)) (hy : Nat32 w B (ab b)) (hbx : ln (ab a) ≤ 1099511627776) (hby : ln (ab b) ≤ 1099511627776) :
    Calls Tryz.prog 111 #[.agg #[.bool (sn (a)), .slice A (ln (ab (a))) cA], .agg #[.bool (sn (b)), .slice B (ln (ab (b))) cB]] w (RetWholeC w (a - b)) := by
  rw [Int.sub_eq_add_neg]
  go_enter Tryz.func111, Tryz.ntmps111
  go_wp2_with fail
  obtain ⟨W, hW⟩ : ∃ W : World, W = (((w.alloc (.cells #[.bool (sn (a)), .slice A (ln (ab (a))) cA] 64)).alloc (.cells #[.bool (sn (b)), .slice B (ln (ab (b))) cB] 64)).alloc (.cells #[.bool false, .slice none 0 0] 64)) := ⟨_, rfl⟩
  have s0_0 : W.cell? ⟨w.heap.size, 0, none⟩ = some (.bool (sn (a))) := by subst hW; go_simp
  have s0_1 : W.cell? ⟨w.heap.size, 1, none⟩ = some (.slice A (ln (ab (a))) cA) := by subst hW; go_simp
  have s1_0 : W.cell? ⟨w.heap.size + 1, 0, none⟩ = some (.bool (sn (b))) := by subst hW; go_simp
  have s1_1 : W.cell? ⟨w.heap.size + 1, 1, none⟩ = some (.slice B (ln (ab (b))) cB) := by subst hW; go_simp
  have r0 : W.cell? ⟨w.heap.size + 1 + 1, 0, none⟩ = some (.bool false) := by subst hW; go_simp
  have f0 : W.frozen? ⟨w.heap.size + 1 + 1, 0, none⟩ = false := by subst hW; go_simp
  have r1 : W.cell? ⟨w.heap.size + 1 + 1, 1, none⟩ = some (.slice none 0 0) := by subst hW; go_simp
  have f1 : W.frozen? ⟨w.heap.size + 1 + 1, 1, none⟩ = false := by subst hW; go_simp
  have HW : Below w.heap.size w W := by subst hW; exact ((((Below.refl w.heap.size w).alloc (Nat.le_refl _) _).alloc (by simp) _).alloc (by simp; omega) _)
  have l0 : w.heap.size < W.heap.size := by subst hW; simp <;> omega
  have l1 : w.heap.size + 1 < W.heap.size := by subst hW; simp <;> omega
  have l2 : w.heap.size + 1 + 1 < W.heap.size := by subst hW; simp
  have n0 : w.heap.size ≠ w.heap.size + 1 + 1 := by omega
  have n1 : w.heap.size + 1 ≠ w.heap.size + 1 + 1 := by omega
  replace hx := hx.to HW
  replace hy := hy.to HW
  rw [← hW]
  clear hW
  replace HW := Lib.hid HW
  go_region_held3 (fun w' => w'.cell? ⟨w.heap.size, 0, none⟩ = some (.bool (sn (a))) ∧ w'.cell? ⟨w.heap.size, 1, none⟩ = some (.slice A (ln (ab (a))) cA) ∧ w'.cell? ⟨w.heap.size + 1, 0, none⟩ = some (.bool (sn (b))) ∧ w'.cell? ⟨w.heap.size + 1, 1, none⟩ = some (.slice B (ln (ab (b))) cB)) (first | with_reducible exact ⟨s0_0, s0_1, s1_0, s1_1⟩ | with_reducible exact ⟨(keeps (keeps s0_0 n0) n0), (keeps (keeps s0_1 n0) n0), (keeps (keeps s1_0 n1) n1), (keeps (keeps s1_1 n1) n1)⟩ | exact ⟨s0_0, s0_1, s1_0, s1_1⟩) (first
    | (go_at_call 112; refine (rintNeg_any b B cB _ (by exact hy)).mono ?_; rintro e w1 ⟨A1, c1, rfl, h1, hb1⟩; have hb1 := undrew hb1; replace s0_0 := keepc hb1 s0_0 l0; replace s0_1 := keepc hb1 s0_1 l0; replace s1_0 := keepc hb1 s1_0 l1; replace s1_1 := keepc hb1 s1_1 l1; replace r0 := keepc hb1 r0 l2; replace f0 := keepf hb1 f0 l2; replace r1 := keepc hb1 r1 l2; replace f1 := keepf hb1 f1 l2; replace l0 := Nat.lt_of_lt_of_le l0 hb1.size; replace l1 := Nat.lt_of_lt_of_le l1 hb1.size; replace l2 := Nat.lt_of_lt_of_le l2 hb1.size; replace hx := hx.to hb1; replace hy := hy.to hb1; replace HW := Lib.hid (hstep HW hb1); clear hb1)
    | (go_at_call 108; refine (rplus_any a (-b) A A1 cA c1 _ (by exact hx) (by exact h1) hbx (by rw [ab_neg]; exact hby)).mono ?_; rintro e w2 ⟨A2, c2, rfl, h2, hb2⟩; replace s0_0 := keepc hb2 s0_0 l0; replace s0_1 := keepc hb2 s0_1 l0; replace s1_0 := keepc hb2 s1_0 l1; replace s1_1 := keepc hb2 s1_1 l1; replace r0 := keepc hb2 r0 l2; replace f0 := keepf hb2 f0 l2; replace r1 := keepc hb2 r1 l2; replace f1 := keepf hb2 f1 l2; replace l0 := Nat.lt_of_lt_of_le l0 hb2.size; replace l1 := Nat.lt_of_lt_of_le l1 hb2.size; replace l2 := Nat.lt_of_lt_of_le l2 hb2.size; replace hx := hx.to hb2; replace hy := hy.to hb2; replace h1 := h1.to hb2; replace HW := Lib.hid (hstep HW hb2); clear hb2))
  go_wp2_with fail
  exact bodyPost_ret (v := .agg #[.bool (sn (a + -b)), .slice A2 (ln (ab (a + -b))) c2]) (by simp [results, Tryz.results111, go_sem, r0, r1, f0, f1]) rfl (retWholeC_fin HW h2 (by omega) r0)
set_option maxHeartbeats 4000000 in
theorem rtimes_any (a b : Int) (A B : Option Addr) (cA cB : Nat) (w : World) (hx : Nat32 w A (ab a)) (hy : Nat32 w B (ab b)) (hbx : ln (ab a) ≤ 1099511627776) (hby : ln (ab b) ≤ 1099511627776) :
    Calls Tryz.prog 109 #[.agg #[.bool (sn (a)), .slice A (ln (ab (a))) cA], .agg #[.bool (sn (b)), .slice B (ln (ab (b))) cB]] w (RetWholeC w (a * b)) := by
  rw [← times_val]
  go_enter Tryz.func109, Tryz.ntmps109
  go_wp2_with fail
  obtain ⟨W, hW⟩ : ∃ W : World, W = (((w.alloc (.cells #[.bool (sn (a)), .slice A (ln (ab (a))) cA] 64)).alloc (.cells #[.bool (sn (b)), .slice B (ln (ab (b))) cB] 64)).alloc (.cells #[.bool false, .slice none 0 0] 64)) := ⟨_, rfl⟩
  have s0_0 : W.cell? ⟨w.heap.size, 0, none⟩ = some (.bool (sn (a))) := by subst hW; go_simp
  have s0_1 : W.cell? ⟨w.heap.size, 1, none⟩ = some (.slice A (ln (ab (a))) cA) := by subst hW; go_simp
  have s1_0 : W.cell? ⟨w.heap.size + 1, 0, none⟩ = some (.bool (sn (b))) := by subst hW; go_simp
  have s1_1 : W.cell? ⟨w.heap.size + 1, 1, none⟩ = some (.slice B (ln (ab (b))) cB) := by subst hW; go_simp
  have r0 : W.cell? ⟨w.heap.size + 1 + 1, 0, none⟩ = some (.bool false) := by subst hW; go_simp
  have f0 : W.frozen? ⟨w.heap.size + 1 + 1, 0, none⟩ = false := by subst hW; go_simp
  have r1 : W.cell? ⟨w.heap.size + 1 + 1, 1, none⟩ = some (.slice none 0 0) := by subst hW; go_simp
  have f1 : W.frozen? ⟨w.heap.size + 1 + 1, 1, none⟩ = false := by subst hW; go_simp
  have HW : Below w.heap.size w W := by subst hW; exact ((((Below.refl w.heap.size w).alloc (Nat.le_refl _) _).alloc (by simp) _).alloc (by simp; omega) _)
  have l0 : w.heap.size < W.heap.size := by subst hW; simp <;> omega
  have l1 : w.heap.size + 1 < W.heap.size := by subst hW; simp <;> omega
  have l2 : w.heap.size + 1 + 1 < W.heap.size := by subst hW; simp
  have n0 : w.heap.size ≠ w.heap.size + 1 + 1 := by omega
  have n1 : w.heap.size + 1 ≠ w.heap.size + 1 + 1 := by omega
  replace hx := hx.to HW
  replace hy := hy.to HW
  rw [← hW]
  clear hW
  replace HW := Lib.hid HW
  go_region_held3 (fun w' => w'.cell? ⟨w.heap.size, 0, none⟩ = some (.bool (sn (a))) ∧ w'.cell? ⟨w.heap.size, 1, none⟩ = some (.slice A (ln (ab (a))) cA) ∧ w'.cell? ⟨w.heap.size + 1, 0, none⟩ = some (.bool (sn (b))) ∧ w'.cell? ⟨w.heap.size + 1, 1, none⟩ = some (.slice B (ln (ab (b))) cB)) (first | with_reducible exact ⟨s0_0, s0_1, s1_0, s1_1⟩ | with_reducible exact ⟨(keeps (keeps s0_0 n0) n0), (keeps (keeps s0_1 n0) n0), (keeps (keeps s1_0 n1) n1), (keeps (keeps s1_1 n1) n1)⟩ | exact ⟨s0_0, s0_1, s1_0, s1_1⟩) (first
    | (go_at_call 110; refine (rnatMul_any (ab a) (ab b) A B cA cB _ (by exact hx) (by exact hy) (by omega) (by omega)).mono ?_; rintro e w1 ⟨A1, c1, rfl, h1, hb1⟩; have hb1 := undrew hb1; replace s0_0 := keepc hb1 s0_0 l0; replace s0_1 := keepc hb1 s0_1 l0; replace s1_0 := keepc hb1 s1_0 l1; replace s1_1 := keepc hb1 s1_1 l1; replace r0 := keepc hb1 r0 l2; replace f0 := keepf hb1 f0 l2; replace r1 := keepc hb1 r1 l2; replace f1 := keepf hb1 f1 l2; replace l0 := Nat.lt_of_lt_of_le l0 hb1.size; replace l1 := Nat.lt_of_lt_of_le l1 hb1.size; replace l2 := Nat.lt_of_lt_of_le l2 hb1.size; replace hx := hx.to hb1; replace hy := hy.to hb1; replace HW := Lib.hid (hstep HW hb1); clear hb1)
    | (go_at_call 130; refine (rsigned_any (sn a != sn b) (ab a * ab b) A1 c1 _ (by exact h1)).mono ?_; rintro e w2 ⟨A2, c2, rfl, h2, hb2⟩; replace s0_0 := keepc hb2 s0_0 l0; replace s0_1 := keepc hb2 s0_1 l0; replace s1_0 := keepc hb2 s1_0 l1; replace s1_1 := keepc hb2 s1_1 l1; replace r0 := keepc hb2 r0 l2; replace f0 := keepf hb2 f0 l2; replace r1 := keepc hb2 r1 l2; replace f1 := keepf hb2 f1 l2; replace l0 := Nat.lt_of_lt_of_le l0 hb2.size; replace l1 := Nat.lt_of_lt_of_le l1 hb2.size; replace l2 := Nat.lt_of_lt_of_le l2 hb2.size; replace hx := hx.to hb2; replace hy := hy.to hb2; replace h1 := h1.to hb2; replace HW := Lib.hid (hstep HW hb2); clear hb2))
  go_wp2_with fail
  exact bodyPost_ret (v := .agg #[.bool (sn (zi (sn a != sn b) (ab a * ab b))), .slice A2 (ln (ab (zi (sn a != sn b) (ab a * ab b)))) c2]) (by simp [results, Tryz.results109, go_sem, r0, r1, f0, f1]) rfl (retWholeC_fin HW h2 (by omega) r0)
end Go.Proofs.YtdpjknjlhchmcaaGreat

namespace Go.Proofs.YtdpjknjlhchmcaaGreat
open Go.RowKit Pl
set_option linter.unusedVariables false
set_option linter.unusedSimpArgs false
set_option maxHeartbeats 4000000 in
theorem rmul_any (x y : Cx) (A1 A2 A3 B1 B2 B3 : Option Addr) (cA1 cA2 cA3 cB1 cB2 cB3 : Nat) (w : World) (hx : Num3C w A1 A2 A3 x) (hy : Num3C w B1 B2 B3 y) (hsx : sz 137438953472 x) (hsy : sz 137438953472 y) :
    Calls Tryz.prog 66 #[.agg #[.bool (sn (na x)), .slice A1 (ln (ab (na x))) cA1, .bool (sn (nb x)), .slice A2 (ln (ab (nb x))) cA2, .slice A3 (ln (nd x)) cA3], .agg #[.bool (sn (na y)), .slice B1 (ln (ab (na y))) cB1, .bool (sn (nb y)), .slice B2 (ln (ab (nb y))) cB2, .slice B3 (ln (nd y)) cB3]] w (RetNumC w (x.mul y)) := by
  obtain ⟨hx1, hx2, hx3⟩ := hx
  obtain ⟨hy1, hy2, hy3⟩ := hy
  have HSX := Lib.hid hsx
  have HSY := Lib.hid hsy
  clear hsx hsy
  rw [← mul_fr]
  go_enter Tryz.func66, Tryz.ntmps66
  go_wp2_with fail
  obtain ⟨W, hW⟩ : ∃ W : World, W = (((w.alloc (.cells #[.bool (sn (na x)), .slice A1 (ln (ab (na x))) cA1, .bool (sn (nb x)), .slice A2 (ln (ab (nb x))) cA2, .slice A3 (ln (nd x)) cA3] 66)).alloc (.cells #[.bool (sn (na y)), .slice B1 (ln (ab (na y))) cB1, .bool (sn (nb y)), .slice B2 (ln (ab (nb y))) cB2, .slice B3 (ln (nd y)) cB3] 66)).alloc (.cells #[.bool false, .slice none 0 0, .bool false, .slice none 0 0, .slice none 0 0] 66)) := ⟨_, rfl⟩
  have s0_0 : W.cell? ⟨w.heap.size, 0, none⟩ = some (.bool (sn (na x))) := by subst hW; go_simp
  have s0_1 : W.cell? ⟨w.heap.size, 1, none⟩ = some (.slice A1 (ln (ab (na x))) cA1) := by subst hW; go_simp
  have s0_2 : W.cell? ⟨w.heap.size, 2, none⟩ = some (.bool (sn (nb x))) := by subst hW; go_simp
  have s0_3 : W.cell? ⟨w.heap.size, 3, none⟩ = some (.slice A2 (ln (ab (nb x))) cA2) := by subst hW; go_simp
  have s0_4 : W.cell? ⟨w.heap.size, 4, none⟩ = some (.slice A3 (ln (nd x)) cA3) := by subst hW; go_simp
  have s1_0 : W.cell? ⟨w.heap.size + 1, 0, none⟩ = some (.bool (sn (na y))) := by subst hW; go_simp
  have s1_1 : W.cell? ⟨w.heap.size + 1, 1, none⟩ = some (.slice B1 (ln (ab (na y))) cB1) := by subst hW; go_simp
  have s1_2 : W.cell? ⟨w.heap.size + 1, 2, none⟩ = some (.bool (sn (nb y))) := by subst hW; go_simp
  have s1_3 : W.cell? ⟨w.heap.size + 1, 3, none⟩ = some (.slice B2 (ln (ab (nb y))) cB2) := by subst hW; go_simp
  have s1_4 : W.cell? ⟨w.heap.size + 1, 4, none⟩ = some (.slice B3 (ln (nd y)) cB3) := by subst hW; go_simp
  have r0 : W.cell? ⟨w.heap.size + 1 + 1, 0, none⟩ = some (.bool false) := by subst hW; go_simp
  have f0 : W.frozen? ⟨w.heap.size + 1 + 1, 0, none⟩ = false := by subst hW; go_simp
  have r1 : W.cell? ⟨w.heap.size + 1 + 1, 1, none⟩ = some (.slice none 0 0) := by subst hW; go_simp
  have f1 : W.frozen? ⟨w.heap.size + 1 + 1, 1, none⟩ = false := by subst hW; go_simp
  have r2 : W.cell? ⟨w.heap.size + 1 + 1, 2, none⟩ = some (.bool false) := by subst hW; go_simp
  have f2 : W.frozen? ⟨w.heap.size + 1 + 1, 2, none⟩ = false := by subst hW; go_simp
  have r3 : W.cell? ⟨w.heap.size + 1 + 1, 3, none⟩ = some (.slice none 0 0) := by subst hW; go_simp
  have f3 : W.frozen? ⟨w.heap.size + 1 + 1, 3, none⟩ = false := by subst hW; go_simp
  have r4 : W.cell? ⟨w.heap.size + 1 + 1, 4, none⟩ = some (.slice none 0 0) := by subst hW; go_simp
  have f4 : W.frozen? ⟨w.heap.size + 1 + 1, 4, none⟩ = false := by subst hW; go_simp
  have HW : Below w.heap.size w W := by subst hW; exact ((((Below.refl w.heap.size w).alloc (Nat.le_refl _) _).alloc (by simp) _).alloc (by simp; omega) _)
  have l0 : w.heap.size < W.heap.size := by subst hW; simp <;> omega
  have l1 : w.heap.size + 1 < W.heap.size := by subst hW; simp <;> omega
  have l2 : w.heap.size + 1 + 1 < W.heap.size := by subst hW; simp
  have n0 : w.heap.size ≠ w.heap.size + 1 + 1 := by omega
  have n1 : w.heap.size + 1 ≠ w.heap.size + 1 + 1 := by omega
  replace hx1 := hx1.to HW
  replace hx2 := hx2.to HW
  replace hx3 := hx3.to HW
  replace hy1 := hy1.to HW
  replace hy2 := hy2.to HW
  replace hy3 := hy3.to HW
  rw [← hW]
  clear hW
  replace HW := Lib.hid HW
  go_region_held3 (fun w' => w'.cell? ⟨w.heap.size, 0, none⟩ = some (.bool (sn (na x))) ∧ w'.cell? ⟨w.heap.size, 1, none⟩ = some (.slice A1 (ln (ab (na x))) cA1) ∧ w'.cell? ⟨w.heap.size, 2, none⟩ = some (.bool (sn (nb x))) ∧ w'.cell? ⟨w.heap.size, 3, none⟩ = some (.slice A2 (ln (ab (nb x))) cA2) ∧ w'.cell? ⟨w.heap.size, 4, none⟩ = some (.slice A3 (ln (nd x)) cA3) ∧ w'.cell? ⟨w.heap.size + 1, 0, none⟩ = some (.bool (sn (na y))) ∧ w'.cell? ⟨w.heap.size + 1, 1, none⟩ = some (.slice B1 (ln (ab (na y))) cB1) ∧ w'.cell? ⟨w.heap.size + 1, 2, none⟩ = some (.bool (sn (nb y))) ∧ w'.cell? ⟨w.heap.size + 1, 3, none⟩ = some (.slice B2 (ln (ab (nb y))) cB2) ∧ w'.cell? ⟨w.heap.size + 1, 4, none⟩ = some (.slice B3 (ln (nd y)) cB3)) (first | with_reducible exact ⟨s0_0, s0_1, s0_2, s0_3, s0_4, s1_0, s1_1, s1_2, s1_3, s1_4⟩ | with_reducible exact ⟨(keeps (keeps (keeps (keeps (keeps s0_0 n0) n0) n0) n0) n0), (keeps (keeps (keeps (keeps (keeps s0_1 n0) n0) n0) n0) n0), (keeps (keeps (keeps (keeps (keeps s0_2 n0) n0) n0) n0) n0), (keeps (keeps (keeps (keeps (keeps s0_3 n0) n0) n0) n0) n0), (keeps (keeps (keeps (keeps (keeps s0_4 n0) n0) n0) n0) n0), (keeps (keeps (keeps (keeps (keeps s1_0 n1) n1) n1) n1) n1), (keeps (keeps (keeps (keeps (keeps s1_1 n1) n1) n1) n1) n1), (keeps (keeps (keeps (keeps (keeps s1_2 n1) n1) n1) n1) n1), (keeps (keeps (keeps (keeps (keeps s1_3 n1) n1) n1) n1) n1), (keeps (keeps (keeps (keeps (keeps s1_4 n1) n1) n1) n1) n1)⟩ | exact ⟨s0_0, s0_1, s0_2, s0_3, s0_4, s1_0, s1_1, s1_2, s1_3, s1_4⟩) (first
    | (have _ := mk6; go_at_call 107; refine (rmake_any (na x * na y - nb x * nb y) (na x * nb y + nb x * na y) (nd x * nd y) S3 S6 S7 d3 d6 d7 _ (by exact h3) (by exact h6) (by exact h7) (by rw [Int.sub_eq_add_neg]; have h := (ab_add_ln (K := 274877906944) (Nat.le_trans (ab_mul_ln HSX.out.1 HSY.out.1) (by omega)) (b := -(nb x * nb y)) (by rw [ab_neg]; exact Nat.le_trans (ab_mul_ln HSX.out.2.1 HSY.out.2.1) (by omega))); have h3 := HSX.out; have h4 := HSY.out; unfold sz at h3 h4; omega) (by have h := (ab_add_ln (K := 274877906944) (Nat.le_trans (ab_mul_ln HSX.out.1 HSY.out.2.1) (by omega)) (Nat.le_trans (ab_mul_ln HSX.out.2.1 HSY.out.1) (by omega))); have h3 := HSX.out; have h4 := HSY.out; unfold sz at h3 h4; omega) (by have h := (nat_mul_ln HSX.out.2.2 HSY.out.2.2); have h3 := HSX.out; have h4 := HSY.out; unfold sz at h3 h4; omega) (Nat.mul_ne_zero (nd_ne0 x) (nd_ne0 y))).mono ?_; rintro e w8 ⟨Z1, Z2, Z3, cZ1, cZ2, cZ3, rfl, h8, hb8⟩; replace s0_0 := keepc hb8 s0_0 l0; replace s0_1 := keepc hb8 s0_1 l0; replace s0_2 := keepc hb8 s0_2 l0; replace s0_3 := keepc hb8 s0_3 l0; replace s0_4 := keepc hb8 s0_4 l0; replace s1_0 := keepc hb8 s1_0 l1; replace s1_1 := keepc hb8 s1_1 l1; replace s1_2 := keepc hb8 s1_2 l1; replace s1_3 := keepc hb8 s1_3 l1; replace s1_4 := keepc hb8 s1_4 l1; replace r0 := keepc hb8 r0 l2; replace f0 := keepf hb8 f0 l2; replace r1 := keepc hb8 r1 l2; replace f1 := keepf hb8 f1 l2; replace r2 := keepc hb8 r2 l2; replace f2 := keepf hb8 f2 l2; replace r3 := keepc hb8 r3 l2; replace f3 := keepf hb8 f3 l2; replace r4 := keepc hb8 r4 l2; replace f4 := keepf hb8 f4 l2; replace l0 := Nat.lt_of_lt_of_le l0 hb8.size; replace l1 := Nat.lt_of_lt_of_le l1 hb8.size; replace l2 := Nat.lt_of_lt_of_le l2 hb8.size; replace hx1 := hx1.to hb8; replace hx2 := hx2.to hb8; replace hx3 := hx3.to hb8; replace hy1 := hy1.to hb8; replace hy2 := hy2.to hb8; replace hy3 := hy3.to hb8; replace h1 := h1.to hb8; replace h2 := h2.to hb8; replace h3 := h3.to hb8; replace h4 := h4.to hb8; replace h5 := h5.to hb8; replace h6 := h6.to hb8; replace h7 := h7.to hb8; replace HW := Lib.hid (hstep HW hb8); clear hb8; have mk7 : True := trivial)
    | (have _ := mk5; go_at_call 110; refine (rnatMul_any (nd x) (nd y) A3 B3 cA3 cB3 _ (by exact hx3) (by exact hy3) (by have := HSX.out; unfold sz at this; omega) (by have := HSY.out; unfold sz at this; omega)).mono ?_; rintro e w7 ⟨S7, d7, rfl, h7, hb7⟩; replace s0_0 := keepc hb7 s0_0 l0; replace s0_1 := keepc hb7 s0_1 l0; replace s0_2 := keepc hb7 s0_2 l0; replace s0_3 := keepc hb7 s0_3 l0; replace s0_4 := keepc hb7 s0_4 l0; replace s1_0 := keepc hb7 s1_0 l1; replace s1_1 := keepc hb7 s1_1 l1; replace s1_2 := keepc hb7 s1_2 l1; replace s1_3 := keepc hb7 s1_3 l1; replace s1_4 := keepc hb7 s1_4 l1; replace r0 := keepc hb7 r0 l2; replace f0 := keepf hb7 f0 l2; replace r1 := keepc hb7 r1 l2; replace f1 := keepf hb7 f1 l2; replace r2 := keepc hb7 r2 l2; replace f2 := keepf hb7 f2 l2; replace r3 := keepc hb7 r3 l2; replace f3 := keepf hb7 f3 l2; replace r4 := keepc hb7 r4 l2; replace f4 := keepf hb7 f4 l2; replace l0 := Nat.lt_of_lt_of_le l0 hb7.size; replace l1 := Nat.lt_of_lt_of_le l1 hb7.size; replace l2 := Nat.lt_of_lt_of_le l2 hb7.size; replace hx1 := hx1.to hb7; replace hx2 := hx2.to hb7; replace hx3 := hx3.to hb7; replace hy1 := hy1.to hb7; replace hy2 := hy2.to hb7; replace hy3 := hy3.to hb7; replace h1 := h1.to hb7; replace h2 := h2.to hb7; replace h3 := h3.to hb7; replace h4 := h4.to hb7; replace h5 := h5.to hb7; replace h6 := h6.to hb7; replace HW := Lib.hid (hstep HW hb7); clear hb7; have mk6 : True := trivial)
    | (have _ := mk4; go_at_call 108; refine (rplus_any (na x * nb y) (nb x * na y) S4 S5 d4 d5 _ (by exact h4) (by exact h5) (by have h := (ab_mul_ln HSX.out.1 HSY.out.2.1); have h3 := HSX.out; have h4 := HSY.out; unfold sz at h3 h4; omega) (by have h := (ab_mul_ln HSX.out.2.1 HSY.out.1); have h3 := HSX.out; have h4 := HSY.out; unfold sz at h3 h4; omega)).mono ?_; rintro e w6 ⟨S6, d6, rfl, h6, hb6⟩; replace s0_0 := keepc hb6 s0_0 l0; replace s0_1 := keepc hb6 s0_1 l0; replace s0_2 := keepc hb6 s0_2 l0; replace s0_3 := keepc hb6 s0_3 l0; replace s0_4 := keepc hb6 s0_4 l0; replace s1_0 := keepc hb6 s1_0 l1; replace s1_1 := keepc hb6 s1_1 l1; replace s1_2 := keepc hb6 s1_2 l1; replace s1_3 := keepc hb6 s1_3 l1; replace s1_4 := keepc hb6 s1_4 l1; replace r0 := keepc hb6 r0 l2; replace f0 := keepf hb6 f0 l2; replace r1 := keepc hb6 r1 l2; replace f1 := keepf hb6 f1 l2; replace r2 := keepc hb6 r2 l2; replace f2 := keepf hb6 f2 l2; replace r3 := keepc hb6 r3 l2; replace f3 := keepf hb6 f3 l2; replace r4 := keepc hb6 r4 l2; replace f4 := keepf hb6 f4 l2; replace l0 := Nat.lt_of_lt_of_le l0 hb6.size; replace l1 := Nat.lt_of_lt_of_le l1 hb6.size; replace l2 := Nat.lt_of_lt_of_le l2 hb6.size; replace hx1 := hx1.to hb6; replace hx2 := hx2.to hb6; replace hx3 := hx3.to hb6; replace hy1 := hy1.to hb6; replace hy2 := hy2.to hb6; replace hy3 := hy3.to hb6; replace h1 := h1.to hb6; replace h2 := h2.to hb6; replace h3 := h3.to hb6; replace h4 := h4.to hb6; replace h5 := h5.to hb6; replace HW := Lib.hid (hstep HW hb6); clear hb6; have mk5 : True := trivial)
    | (have _ := mk3; go_at_call 109; refine (rtimes_any (nb x) (na y) A2 B1 cA2 cB1 _ (by exact hx2) (by exact hy1) (by have := HSX.out; unfold sz at this; omega) (by have := HSY.out; unfold sz at this; omega)).mono ?_; rintro e w5 ⟨S5, d5, rfl, h5, hb5⟩; replace s0_0 := keepc hb5 s0_0 l0; replace s0_1 := keepc hb5 s0_1 l0; replace s0_2 := keepc hb5 s0_2 l0; replace s0_3 := keepc hb5 s0_3 l0; replace s0_4 := keepc hb5 s0_4 l0; replace s1_0 := keepc hb5 s1_0 l1; replace s1_1 := keepc hb5 s1_1 l1; replace s1_2 := keepc hb5 s1_2 l1; replace s1_3 := keepc hb5 s1_3 l1; replace s1_4 := keepc hb5 s1_4 l1; replace r0 := keepc hb5 r0 l2; replace f0 := keepf hb5 f0 l2; replace r1 := keepc hb5 r1 l2; replace f1 := keepf hb5 f1 l2; replace r2 := keepc hb5 r2 l2; replace f2 := keepf hb5 f2 l2; replace r3 := keepc hb5 r3 l2; replace f3 := keepf hb5 f3 l2; replace r4 := keepc hb5 r4 l2; replace f4 := keepf hb5 f4 l2; replace l0 := Nat.lt_of_lt_of_le l0 hb5.size; replace l1 := Nat.lt_of_lt_of_le l1 hb5.size; replace l2 := Nat.lt_of_lt_of_le l2 hb5.size; replace hx1 := hx1.to hb5; replace hx2 := hx2.to hb5; replace hx3 := hx3.to hb5; replace hy1 := hy1.to hb5; replace hy2 := hy2.to hb5; replace hy3 := hy3.to hb5; replace h1 := h1.to hb5; replace h2 := h2.to hb5; replace h3 := h3.to hb5; replace h4 := h4.to hb5; replace HW := Lib.hid (hstep HW hb5); clear hb5; have mk4 : True := trivial)
    | (have _ := mk2; go_at_call 109; refine (rtimes_any (na x) (nb y) A1 B2 cA1 cB2 _ (by exact hx1) (by exact hy2) (by have := HSX.out; unfold sz at this; omega) (by have := HSY.out; unfold sz at this; omega)).mono ?_; rintro e w4 ⟨S4, d4, rfl, h4, hb4⟩; replace s0_0 := keepc hb4 s0_0 l0; replace s0_1 := keepc hb4 s0_1 l0; replace s0_2 := keepc hb4 s0_2 l0; replace s0_3 := keepc hb4 s0_3 l0; replace s0_4 := keepc hb4 s0_4 l0; replace s1_0 := keepc hb4 s1_0 l1; replace s1_1 := keepc hb4 s1_1 l1; replace s1_2 := keepc hb4 s1_2 l1; replace s1_3 := keepc hb4 s1_3 l1; replace s1_4 := keepc hb4 s1_4 l1; replace r0 := keepc hb4 r0 l2; replace f0 := keepf hb4 f0 l2; replace r1 := keepc hb4 r1 l2; replace f1 := keepf hb4 f1 l2; replace r2 := keepc hb4 r2 l2; replace f2 := keepf hb4 f2 l2; replace r3 := keepc hb4 r3 l2; replace f3 := keepf hb4 f3 l2; replace r4 := keepc hb4 r4 l2; replace f4 := keepf hb4 f4 l2; replace l0 := Nat.lt_of_lt_of_le l0 hb4.size; replace l1 := Nat.lt_of_lt_of_le l1 hb4.size; replace l2 := Nat.lt_of_lt_of_le l2 hb4.size; replace hx1 := hx1.to hb4; replace hx2 := hx2.to hb4; replace hx3 := hx3.to hb4; replace hy1 := hy1.to hb4; replace hy2 := hy2.to hb4; replace hy3 := hy3.to hb4; replace h1 := h1.to hb4; replace h2 := h2.to hb4; replace h3 := h3.to hb4; replace HW := Lib.hid (hstep HW hb4); clear hb4; have mk3 : True := trivial)
    | (have _ := mk1; go_at_call 111; refine (rsub_any (na x * na y) (nb x * nb y) S1 S2 d1 d2 _ (by exact h1) (by exact h2) (by have h := (ab_mul_ln HSX.out.1 HSY.out.1); have h3 := HSX.out; have h4 := HSY.out; unfold sz at h3 h4; omega) (by have h := (ab_mul_ln HSX.out.2.1 HSY.out.2.1); have h3 := HSX.out; have h4 := HSY.out; unfold sz at h3 h4; omega)).mono ?_; rintro e w3 ⟨S3, d3, rfl, h3, hb3⟩; replace s0_0 := keepc hb3 s0_0 l0; replace s0_1 := keepc hb3 s0_1 l0; replace s0_2 := keepc hb3 s0_2 l0; replace s0_3 := keepc hb3 s0_3 l0; replace s0_4 := keepc hb3 s0_4 l0; replace s1_0 := keepc hb3 s1_0 l1; replace s1_1 := keepc hb3 s1_1 l1; replace s1_2 := keepc hb3 s1_2 l1; replace s1_3 := keepc hb3 s1_3 l1; replace s1_4 := keepc hb3 s1_4 l1; replace r0 := keepc hb3 r0 l2; replace f0 := keepf hb3 f0 l2; replace r1 := keepc hb3 r1 l2; replace f1 := keepf hb3 f1 l2; replace r2 := keepc hb3 r2 l2; replace f2 := keepf hb3 f2 l2; replace r3 := keepc hb3 r3 l2; replace f3 := keepf hb3 f3 l2; replace r4 := keepc hb3 r4 l2; replace f4 := keepf hb3 f4 l2; replace l0 := Nat.lt_of_lt_of_le l0 hb3.size; replace l1 := Nat.lt_of_lt_of_le l1 hb3.size; replace l2 := Nat.lt_of_lt_of_le l2 hb3.size; replace hx1 := hx1.to hb3; replace hx2 := hx2.to hb3; replace hx3 := hx3.to hb3; replace hy1 := hy1.to hb3; replace hy2 := hy2.to hb3; replace hy3 := hy3.to hb3; replace h1 := h1.to hb3; replace h2 := h2.to hb3; replace HW := Lib.hid (hstep HW hb3); clear hb3; have mk2 : True := trivial)
    | (have _ := mk0; go_at_call 109; refine (rtimes_any (nb x) (nb y) A2 B2 cA2 cB2 _ (by exact hx2) (by exact hy2) (by have := HSX.out; unfold sz at this; omega) (by have := HSY.out; unfold sz at this; omega)).mono ?_; rintro e w2 ⟨S2, d2, rfl, h2, hb2⟩; replace s0_0 := keepc hb2 s0_0 l0; replace s0_1 := keepc hb2 s0_1 l0; replace s0_2 := keepc hb2 s0_2 l0; replace s0_3 := keepc hb2 s0_3 l0; replace s0_4 := keepc hb2 s0_4 l0; replace s1_0 := keepc hb2 s1_0 l1; replace s1_1 := keepc hb2 s1_1 l1; replace s1_2 := keepc hb2 s1_2 l1; replace s1_3 := keepc hb2 s1_3 l1; replace s1_4 := keepc hb2 s1_4 l1; replace r0 := keepc hb2 r0 l2; replace f0 := keepf hb2 f0 l2; replace r1 := keepc hb2 r1 l2; replace f1 := keepf hb2 f1 l2; replace r2 := keepc hb2 r2 l2; replace f2 := keepf hb2 f2 l2; replace r3 := keepc hb2 r3 l2; replace f3 := keepf hb2 f3 l2; replace r4 := keepc hb2 r4 l2; replace f4 := keepf hb2 f4 l2; replace l0 := Nat.lt_of_lt_of_le l0 hb2.size; replace l1 := Nat.lt_of_lt_of_le l1 hb2.size; replace l2 := Nat.lt_of_lt_of_le l2 hb2.size; replace hx1 := hx1.to hb2; replace hx2 := hx2.to hb2; replace hx3 := hx3.to hb2; replace hy1 := hy1.to hb2; replace hy2 := hy2.to hb2; replace hy3 := hy3.to hb2; replace h1 := h1.to hb2; replace HW := Lib.hid (hstep HW hb2); clear hb2; have mk1 : True := trivial)
    | (go_at_call 109; refine (rtimes_any (na x) (na y) A1 B1 cA1 cB1 _ (by exact hx1) (by exact hy1) (by have := HSX.out; unfold sz at this; omega) (by have := HSY.out; unfold sz at this; omega)).mono ?_; rintro e w1 ⟨S1, d1, rfl, h1, hb1⟩; have hb1 := undrew hb1; replace s0_0 := keepc hb1 s0_0 l0; replace s0_1 := keepc hb1 s0_1 l0; replace s0_2 := keepc hb1 s0_2 l0; replace s0_3 := keepc hb1 s0_3 l0; replace s0_4 := keepc hb1 s0_4 l0; replace s1_0 := keepc hb1 s1_0 l1; replace s1_1 := keepc hb1 s1_1 l1; replace s1_2 := keepc hb1 s1_2 l1; replace s1_3 := keepc hb1 s1_3 l1; replace s1_4 := keepc hb1 s1_4 l1; replace r0 := keepc hb1 r0 l2; replace f0 := keepf hb1 f0 l2; replace r1 := keepc hb1 r1 l2; replace f1 := keepf hb1 f1 l2; replace r2 := keepc hb1 r2 l2; replace f2 := keepf hb1 f2 l2; replace r3 := keepc hb1 r3 l2; replace f3 := keepf hb1 f3 l2; replace r4 := keepc hb1 r4 l2; replace f4 := keepf hb1 f4 l2; replace l0 := Nat.lt_of_lt_of_le l0 hb1.size; replace l1 := Nat.lt_of_lt_of_le l1 hb1.size; replace l2 := Nat.lt_of_lt_of_le l2 hb1.size; replace hx1 := hx1.to hb1; replace hx2 := hx2.to hb1; replace hx3 := hx3.to hb1; replace hy1 := hy1.to hb1; replace hy2 := hy2.to hb1; replace hy3 := hy3.to hb1; replace HW := Lib.hid (hstep HW hb1); clear hb1; have mk0 : True := trivial))
  go_wp2_with fail
  exact bodyPost_ret (v := .agg #[.bool (sn (na (fr (na x * na y - nb x * nb y) (na x * nb y + nb x * na y) (nd x * nd y)))), .slice Z1 (ln (ab (na (fr (na x * na y - nb x * nb y) (na x * nb y + nb x * na y) (nd x * nd y))))) cZ1, .bool (sn (nb (fr (na x * na y - nb x * nb y) (na x * nb y + nb x * na y) (nd x * nd y)))), .slice Z2 (ln (ab (nb (fr (na x * na y - nb x * nb y) (na x * nb y + nb x * na y) (nd x * nd y))))) cZ2, .slice Z3 (ln (nd (fr (na x * na y - nb x * nb y) (na x * nb y + nb x * na y) (nd x * nd y)))) cZ3]) (by simp [results, Tryz.results66, go_sem, r0, r1, r2, r3, r4, f0, f1, f2, f3, f4]) rfl (retNumC_fin HW h8 (by omega) r0)
end Go.Proofs.YtdpjknjlhchmcaaGreat

namespace Go.Proofs.YtdpjknjlhchmcaaGreat
open Go.RowKit Pl
set_option linter.unusedVariables false
set_option linter.unusedSimpArgs false
/-- Two local integers that are not negative. -/
def TwoInt (W : World) (A B : Option Addr) (n m c d : Nat) (p q : Value) (wx : World) : Prop := ∃ g h, p = .pointer (some ⟨g, 0, none⟩) ∧ q = .pointer (some ⟨h, 0, none⟩) ∧
  (wx.cell? ⟨g, 0, none⟩ = some (.bool false) ∧ wx.cell? ⟨g, 1, none⟩ = some (.slice A n c)) ∧ (wx.cell? ⟨h, 0, none⟩ = some (.bool false) ∧ wx.cell? ⟨h, 1, none⟩ = some (.slice B m d)) ∧
  (W.heap.size ≤ g ∧ g < wx.heap.size) ∧ (W.heap.size ≤ h ∧ h < wx.heap.size) ∧ Below W.heap.size W wx
theorem twoInt_a (W : World) (A B : Option Addr) (n m c d : Nat) (T : TypeId) : TwoInt W A B n m c d (.pointer (some ⟨W.heap.size, 0, none⟩)) (.pointer (some ⟨W.heap.size + 1, 0, none⟩)) ((W.alloc (.cells #[.bool false, .slice A n c] T)).alloc (.cells #[.bool false, .slice B m d] T)).drew :=
  ⟨_, _, rfl, rfl, ⟨by go_simp, by go_simp⟩, ⟨by go_simp, by go_simp⟩, ⟨by omega, by show _ < ((W.alloc _).alloc _).heap.size; simp <;> omega⟩, ⟨by omega, by show _ < ((W.alloc _).alloc _).heap.size; simp <;> omega⟩, below_drewN (((Below.refl _ _).alloc (Nat.le_refl _) _).alloc (by simp) _) 1⟩
theorem twoInt_b (W : World) (A B : Option Addr) (n m c d : Nat) (T : TypeId) : TwoInt W A B n m c d (.pointer (some ⟨W.heap.size + 1, 0, none⟩)) (.pointer (some ⟨W.heap.size, 0, none⟩)) ((W.alloc (.cells #[.bool false, .slice B m d] T)).alloc (.cells #[.bool false, .slice A n c] T)).drew :=
  ⟨_, _, rfl, rfl, ⟨by go_simp, by go_simp⟩, ⟨by go_simp, by go_simp⟩, ⟨by omega, by show _ < ((W.alloc _).alloc _).heap.size; simp <;> omega⟩, ⟨by omega, by show _ < ((W.alloc _).alloc _).heap.size; simp <;> omega⟩, below_drewN (((Below.refl _ _).alloc (Nat.le_refl _) _).alloc (by simp) _) 1⟩
theorem rtimes_n (a : Int) (n : Nat) (A B : Option Addr) (cA cB : Nat) (w : World) (hx : Nat32 w A (ab a)) (hy : Nat32 w B n) (hbx : ln (ab a) ≤ 1099511627776) (hby : ln n ≤ 1099511627776) :
    Calls Tryz.prog 109 #[.agg #[.bool (sn a), .slice A (ln (ab a)) cA], .agg #[.bool false, .slice B (ln n) cB]] w (RetWholeC w (a * (n : Int))) := by
  have e : ab (n : Int) = n := by unfold ab; omega
  have e2 : sn (n : Int) = false := by unfold sn; rw [decide_eq_false_iff_not]; omega
  have h := rtimes_any a (n : Int) A B cA cB w hx (by rw [e]; exact hy) hbx (by rw [e]; exact hby)
  rwa [e, e2] at h
theorem ab_muln_ln {a : Int} {n K L : Nat} (ha : ln (ab a) ≤ K) (hn : ln n ≤ L) : ln (ab (a * (n : Int))) ≤ K + L := ab_mul_ln ha (b := (n : Int)) (by rw [show ab (n : Int) = n by unfold ab; omega]; exact hn)
set_option maxHeartbeats 4000000 in
theorem radd_any (x y : Cx) (A1 A2 A3 B1 B2 B3 : Option Addr) (cA1 cA2 cA3 cB1 cB2 cB3 : Nat) (w : World) (hx : Num3C w A1 A2 A3 x) (hy : Num3C w B1 B2 B3 y) (hsx : sz 137438953472 x) (hsy : sz 137438953472 y) :
    Calls Tryz.prog 65 #[.agg #[.bool (sn (na x)), .slice A1 (ln (ab (na x))) cA1, .bool (sn (nb x)), .slice A2 (ln (ab (nb x))) cA2, .slice A3 (ln (nd x)) cA3], .agg #[.bool (sn (na y)), .slice B1 (ln (ab (na y))) cB1, .bool (sn (nb y)), .slice B2 (ln (ab (nb y))) cB2, .slice B3 (ln (nd y)) cB3]] w (RetNumC w (x.add y)) := by
  obtain ⟨hx1, hx2, hx3⟩ := hx
  obtain ⟨hy1, hy2, hy3⟩ := hy
  have HSX := Lib.hid hsx
  have HSY := Lib.hid hsy
  clear hsx hsy
  rw [← add_fr]
  go_enter Tryz.func65, Tryz.ntmps65
  go_wp2_with fail
  obtain ⟨W, hW⟩ : ∃ W : World, W = (((w.alloc (.cells #[.bool (sn (na x)), .slice A1 (ln (ab (na x))) cA1, .bool (sn (nb x)), .slice A2 (ln (ab (nb x))) cA2, .slice A3 (ln (nd x)) cA3] 66)).alloc (.cells #[.bool (sn (na y)), .slice B1 (ln (ab (na y))) cB1, .bool (sn (nb y)), .slice B2 (ln (ab (nb y))) cB2, .slice B3 (ln (nd y)) cB3] 66)).alloc (.cells #[.bool false, .slice none 0 0, .bool false, .slice none 0 0, .slice none 0 0] 66)) := ⟨_, rfl⟩
  have s0_0 : W.cell? ⟨w.heap.size, 0, none⟩ = some (.bool (sn (na x))) := by subst hW; go_simp
  have s0_1 : W.cell? ⟨w.heap.size, 1, none⟩ = some (.slice A1 (ln (ab (na x))) cA1) := by subst hW; go_simp
  have s0_2 : W.cell? ⟨w.heap.size, 2, none⟩ = some (.bool (sn (nb x))) := by subst hW; go_simp
  have s0_3 : W.cell? ⟨w.heap.size, 3, none⟩ = some (.slice A2 (ln (ab (nb x))) cA2) := by subst hW; go_simp
  have s0_4 : W.cell? ⟨w.heap.size, 4, none⟩ = some (.slice A3 (ln (nd x)) cA3) := by subst hW; go_simp
  have s1_0 : W.cell? ⟨w.heap.size + 1, 0, none⟩ = some (.bool (sn (na y))) := by subst hW; go_simp
  have s1_1 : W.cell? ⟨w.heap.size + 1, 1, none⟩ = some (.slice B1 (ln (ab (na y))) cB1) := by subst hW; go_simp
  have s1_2 : W.cell? ⟨w.heap.size + 1, 2, none⟩ = some (.bool (sn (nb y))) := by subst hW; go_simp
  have s1_3 : W.cell? ⟨w.heap.size + 1, 3, none⟩ = some (.slice B2 (ln (ab (nb y))) cB2) := by subst hW; go_simp
  have s1_4 : W.cell? ⟨w.heap.size + 1, 4, none⟩ = some (.slice B3 (ln (nd y)) cB3) := by subst hW; go_simp
  have r0 : W.cell? ⟨w.heap.size + 1 + 1, 0, none⟩ = some (.bool false) := by subst hW; go_simp
  have f0 : W.frozen? ⟨w.heap.size + 1 + 1, 0, none⟩ = false := by subst hW; go_simp
  have r1 : W.cell? ⟨w.heap.size + 1 + 1, 1, none⟩ = some (.slice none 0 0) := by subst hW; go_simp
  have f1 : W.frozen? ⟨w.heap.size + 1 + 1, 1, none⟩ = false := by subst hW; go_simp
  have r2 : W.cell? ⟨w.heap.size + 1 + 1, 2, none⟩ = some (.bool false) := by subst hW; go_simp
  have f2 : W.frozen? ⟨w.heap.size + 1 + 1, 2, none⟩ = false := by subst hW; go_simp
  have r3 : W.cell? ⟨w.heap.size + 1 + 1, 3, none⟩ = some (.slice none 0 0) := by subst hW; go_simp
  have f3 : W.frozen? ⟨w.heap.size + 1 + 1, 3, none⟩ = false := by subst hW; go_simp
  have r4 : W.cell? ⟨w.heap.size + 1 + 1, 4, none⟩ = some (.slice none 0 0) := by subst hW; go_simp
  have f4 : W.frozen? ⟨w.heap.size + 1 + 1, 4, none⟩ = false := by subst hW; go_simp
  have HW : Below w.heap.size w W := by subst hW; exact ((((Below.refl w.heap.size w).alloc (Nat.le_refl _) _).alloc (by simp) _).alloc (by simp; omega) _)
  have l0 : w.heap.size < W.heap.size := by subst hW; simp <;> omega
  have l1 : w.heap.size + 1 < W.heap.size := by subst hW; simp <;> omega
  have l2 : w.heap.size + 1 + 1 < W.heap.size := by subst hW; simp
  have n0 : w.heap.size ≠ w.heap.size + 1 + 1 := by omega
  have n1 : w.heap.size + 1 ≠ w.heap.size + 1 + 1 := by omega
  replace hx1 := hx1.to HW
  replace hx2 := hx2.to HW
  replace hx3 := hx3.to HW
  replace hy1 := hy1.to HW
  replace hy2 := hy2.to HW
  replace hy3 := hy3.to HW
  rw [← hW]
  clear hW
  replace HW := Lib.hid HW
  go_upto_region 1 with fail
  go_cut [5, 6] (fun p q wx => TwoInt W A3 B3 (ln (nd x)) (ln (nd y)) cA3 cB3 p q wx)
  case first =>
    go_region
    all_goals (go_wp2_with fail; go_meet; first | exact twoInt_a _ _ _ _ _ _ _ _ | exact twoInt_b _ _ _ _ _ _ _ _)
  case rest =>
  obtain ⟨g0, g1, hp0, hp1, ⟨t0_0, t0_1⟩, ⟨t1_0, t1_1⟩, ⟨hg0, l100⟩, ⟨hg1, l101⟩, hb1⟩ := hcut
  subst hp0 hp1
  have n100 : g0 ≠ w.heap.size + 1 + 1 := by omega
  have n101 : g1 ≠ w.heap.size + 1 + 1 := by omega
  obtain ⟨w1, rfl⟩ : ∃ X : World, X = wc := ⟨_, rfl⟩
  replace s0_0 := keepc hb1 s0_0 l0
  replace s0_1 := keepc hb1 s0_1 l0
  replace s0_2 := keepc hb1 s0_2 l0
  replace s0_3 := keepc hb1 s0_3 l0
  replace s0_4 := keepc hb1 s0_4 l0
  replace s1_0 := keepc hb1 s1_0 l1
  replace s1_1 := keepc hb1 s1_1 l1
  replace s1_2 := keepc hb1 s1_2 l1
  replace s1_3 := keepc hb1 s1_3 l1
  replace s1_4 := keepc hb1 s1_4 l1
  replace r0 := keepc hb1 r0 l2
  replace f0 := keepf hb1 f0 l2
  replace r1 := keepc hb1 r1 l2
  replace f1 := keepf hb1 f1 l2
  replace r2 := keepc hb1 r2 l2
  replace f2 := keepf hb1 f2 l2
  replace r3 := keepc hb1 r3 l2
  replace f3 := keepf hb1 f3 l2
  replace r4 := keepc hb1 r4 l2
  replace f4 := keepf hb1 f4 l2
  replace l0 := Nat.lt_of_lt_of_le l0 hb1.size
  replace l1 := Nat.lt_of_lt_of_le l1 hb1.size
  replace l2 := Nat.lt_of_lt_of_le l2 hb1.size
  replace hx1 := hx1.to hb1
  replace hx2 := hx2.to hb1
  replace hx3 := hx3.to hb1
  replace hy1 := hy1.to hb1
  replace hy2 := hy2.to hb1
  replace hy3 := hy3.to hb1
  replace HW := Lib.hid (hstep HW hb1)
  clear hb1
  go_wp2_with fail
  go_region_held3 (fun w' => w'.cell? ⟨w.heap.size, 0, none⟩ = some (.bool (sn (na x))) ∧ w'.cell? ⟨w.heap.size, 1, none⟩ = some (.slice A1 (ln (ab (na x))) cA1) ∧ w'.cell? ⟨w.heap.size, 2, none⟩ = some (.bool (sn (nb x))) ∧ w'.cell? ⟨w.heap.size, 3, none⟩ = some (.slice A2 (ln (ab (nb x))) cA2) ∧ w'.cell? ⟨w.heap.size, 4, none⟩ = some (.slice A3 (ln (nd x)) cA3) ∧ w'.cell? ⟨w.heap.size + 1, 0, none⟩ = some (.bool (sn (na y))) ∧ w'.cell? ⟨w.heap.size + 1, 1, none⟩ = some (.slice B1 (ln (ab (na y))) cB1) ∧ w'.cell? ⟨w.heap.size + 1, 2, none⟩ = some (.bool (sn (nb y))) ∧ w'.cell? ⟨w.heap.size + 1, 3, none⟩ = some (.slice B2 (ln (ab (nb y))) cB2) ∧ w'.cell? ⟨w.heap.size + 1, 4, none⟩ = some (.slice B3 (ln (nd y)) cB3) ∧ w'.cell? ⟨g0, 0, none⟩ = some (.bool false) ∧ w'.cell? ⟨g0, 1, none⟩ = some (.slice A3 (ln (nd x)) cA3) ∧ w'.cell? ⟨g1, 0, none⟩ = some (.bool false) ∧ w'.cell? ⟨g1, 1, none⟩ = some (.slice B3 (ln (nd y)) cB3)) (first | with_reducible exact ⟨s0_0, s0_1, s0_2, s0_3, s0_4, s1_0, s1_1, s1_2, s1_3, s1_4, t0_0, t0_1, t1_0, t1_1⟩ | with_reducible exact ⟨(keeps (keeps (keeps (keeps (keeps s0_0 n0) n0) n0) n0) n0), (keeps (keeps (keeps (keeps (keeps s0_1 n0) n0) n0) n0) n0), (keeps (keeps (keeps (keeps (keeps s0_2 n0) n0) n0) n0) n0), (keeps (keeps (keeps (keeps (keeps s0_3 n0) n0) n0) n0) n0), (keeps (keeps (keeps (keeps (keeps s0_4 n0) n0) n0) n0) n0), (keeps (keeps (keeps (keeps (keeps s1_0 n1) n1) n1) n1) n1), (keeps (keeps (keeps (keeps (keeps s1_1 n1) n1) n1) n1) n1), (keeps (keeps (keeps (keeps (keeps s1_2 n1) n1) n1) n1) n1), (keeps (keeps (keeps (keeps (keeps s1_3 n1) n1) n1) n1) n1), (keeps (keeps (keeps (keeps (keeps s1_4 n1) n1) n1) n1) n1), (keeps (keeps (keeps (keeps (keeps t0_0 n100) n100) n100) n100) n100), (keeps (keeps (keeps (keeps (keeps t0_1 n100) n100) n100) n100) n100), (keeps (keeps (keeps (keeps (keeps t1_0 n101) n101) n101) n101) n101), (keeps (keeps (keeps (keeps (keeps t1_1 n101) n101) n101) n101) n101)⟩ | exact ⟨s0_0, s0_1, s0_2, s0_3, s0_4, s1_0, s1_1, s1_2, s1_3, s1_4, t0_0, t0_1, t1_0, t1_1⟩) (first
    | (have _ := mk6; go_at_call 107; refine (rmake_any (na x * (nd y : Int) + na y * (nd x : Int)) (nb x * (nd y : Int) + nb y * (nd x : Int)) (nd x * nd y) S3 S6 S7 d3 d6 d7 _ (by exact h3) (by exact h6) (by exact h7) (by have h := (ab_add_ln (K := 274877906944) (Nat.le_trans (ab_muln_ln HSX.out.1 HSY.out.2.2) (by omega)) (Nat.le_trans (ab_muln_ln HSY.out.1 HSX.out.2.2) (by omega))); have h3 := HSX.out; have h4 := HSY.out; unfold sz at h3 h4; omega) (by have h := (ab_add_ln (K := 274877906944) (Nat.le_trans (ab_muln_ln HSX.out.2.1 HSY.out.2.2) (by omega)) (Nat.le_trans (ab_muln_ln HSY.out.2.1 HSX.out.2.2) (by omega))); have h3 := HSX.out; have h4 := HSY.out; unfold sz at h3 h4; omega) (by have h := (nat_mul_ln HSX.out.2.2 HSY.out.2.2); have h3 := HSX.out; have h4 := HSY.out; unfold sz at h3 h4; omega) (Nat.mul_ne_zero (nd_ne0 x) (nd_ne0 y))).mono ?_; rintro e w9 ⟨Z1, Z2, Z3, cZ1, cZ2, cZ3, rfl, h8, hb9⟩; replace s0_0 := keepc hb9 s0_0 l0; replace s0_1 := keepc hb9 s0_1 l0; replace s0_2 := keepc hb9 s0_2 l0; replace s0_3 := keepc hb9 s0_3 l0; replace s0_4 := keepc hb9 s0_4 l0; replace s1_0 := keepc hb9 s1_0 l1; replace s1_1 := keepc hb9 s1_1 l1; replace s1_2 := keepc hb9 s1_2 l1; replace s1_3 := keepc hb9 s1_3 l1; replace s1_4 := keepc hb9 s1_4 l1; replace t0_0 := keepc hb9 t0_0 l100; replace t0_1 := keepc hb9 t0_1 l100; replace t1_0 := keepc hb9 t1_0 l101; replace t1_1 := keepc hb9 t1_1 l101; replace r0 := keepc hb9 r0 l2; replace f0 := keepf hb9 f0 l2; replace r1 := keepc hb9 r1 l2; replace f1 := keepf hb9 f1 l2; replace r2 := keepc hb9 r2 l2; replace f2 := keepf hb9 f2 l2; replace r3 := keepc hb9 r3 l2; replace f3 := keepf hb9 f3 l2; replace r4 := keepc hb9 r4 l2; replace f4 := keepf hb9 f4 l2; replace l0 := Nat.lt_of_lt_of_le l0 hb9.size; replace l1 := Nat.lt_of_lt_of_le l1 hb9.size; replace l2 := Nat.lt_of_lt_of_le l2 hb9.size; replace l100 := Nat.lt_of_lt_of_le l100 hb9.size; replace l101 := Nat.lt_of_lt_of_le l101 hb9.size; replace hx1 := hx1.to hb9; replace hx2 := hx2.to hb9; replace hx3 := hx3.to hb9; replace hy1 := hy1.to hb9; replace hy2 := hy2.to hb9; replace hy3 := hy3.to hb9; replace h1 := h1.to hb9; replace h2 := h2.to hb9; replace h3 := h3.to hb9; replace h4 := h4.to hb9; replace h5 := h5.to hb9; replace h6 := h6.to hb9; replace h7 := h7.to hb9; replace HW := Lib.hid (hstep HW hb9); clear hb9; have mk7 : True := trivial)
    | (have _ := mk5; go_at_call 110; refine (rnatMul_any (nd x) (nd y) A3 B3 cA3 cB3 _ (by exact hx3) (by exact hy3) (by have := HSX.out; unfold sz at this; omega) (by have := HSY.out; unfold sz at this; omega)).mono ?_; rintro e w8 ⟨S7, d7, rfl, h7, hb8⟩; replace s0_0 := keepc hb8 s0_0 l0; replace s0_1 := keepc hb8 s0_1 l0; replace s0_2 := keepc hb8 s0_2 l0; replace s0_3 := keepc hb8 s0_3 l0; replace s0_4 := keepc hb8 s0_4 l0; replace s1_0 := keepc hb8 s1_0 l1; replace s1_1 := keepc hb8 s1_1 l1; replace s1_2 := keepc hb8 s1_2 l1; replace s1_3 := keepc hb8 s1_3 l1; replace s1_4 := keepc hb8 s1_4 l1; replace t0_0 := keepc hb8 t0_0 l100; replace t0_1 := keepc hb8 t0_1 l100; replace t1_0 := keepc hb8 t1_0 l101; replace t1_1 := keepc hb8 t1_1 l101; replace r0 := keepc hb8 r0 l2; replace f0 := keepf hb8 f0 l2; replace r1 := keepc hb8 r1 l2; replace f1 := keepf hb8 f1 l2; replace r2 := keepc hb8 r2 l2; replace f2 := keepf hb8 f2 l2; replace r3 := keepc hb8 r3 l2; replace f3 := keepf hb8 f3 l2; replace r4 := keepc hb8 r4 l2; replace f4 := keepf hb8 f4 l2; replace l0 := Nat.lt_of_lt_of_le l0 hb8.size; replace l1 := Nat.lt_of_lt_of_le l1 hb8.size; replace l2 := Nat.lt_of_lt_of_le l2 hb8.size; replace l100 := Nat.lt_of_lt_of_le l100 hb8.size; replace l101 := Nat.lt_of_lt_of_le l101 hb8.size; replace hx1 := hx1.to hb8; replace hx2 := hx2.to hb8; replace hx3 := hx3.to hb8; replace hy1 := hy1.to hb8; replace hy2 := hy2.to hb8; replace hy3 := hy3.to hb8; replace h1 := h1.to hb8; replace h2 := h2.to hb8; replace h3 := h3.to hb8; replace h4 := h4.to hb8; replace h5 := h5.to hb8; replace h6 := h6.to hb8; replace HW := Lib.hid (hstep HW hb8); clear hb8; have mk6 : True := trivial)
    | (have _ := mk4; go_at_call 108; refine (rplus_any (nb x * (nd y : Int)) (nb y * (nd x : Int)) S4 S5 d4 d5 _ (by exact h4) (by exact h5) (by have h := ((ab_muln_ln HSX.out.2.1 HSY.out.2.2)); have h3 := HSX.out; have h4 := HSY.out; unfold sz at h3 h4; omega) (by have h := ((ab_muln_ln HSY.out.2.1 HSX.out.2.2)); have h3 := HSX.out; have h4 := HSY.out; unfold sz at h3 h4; omega)).mono ?_; rintro e w7 ⟨S6, d6, rfl, h6, hb7⟩; replace s0_0 := keepc hb7 s0_0 l0; replace s0_1 := keepc hb7 s0_1 l0; replace s0_2 := keepc hb7 s0_2 l0; replace s0_3 := keepc hb7 s0_3 l0; replace s0_4 := keepc hb7 s0_4 l0; replace s1_0 := keepc hb7 s1_0 l1; replace s1_1 := keepc hb7 s1_1 l1; replace s1_2 := keepc hb7 s1_2 l1; replace s1_3 := keepc hb7 s1_3 l1; replace s1_4 := keepc hb7 s1_4 l1; replace t0_0 := keepc hb7 t0_0 l100; replace t0_1 := keepc hb7 t0_1 l100; replace t1_0 := keepc hb7 t1_0 l101; replace t1_1 := keepc hb7 t1_1 l101; replace r0 := keepc hb7 r0 l2; replace f0 := keepf hb7 f0 l2; replace r1 := keepc hb7 r1 l2; replace f1 := keepf hb7 f1 l2; replace r2 := keepc hb7 r2 l2; replace f2 := keepf hb7 f2 l2; replace r3 := keepc hb7 r3 l2; replace f3 := keepf hb7 f3 l2; replace r4 := keepc hb7 r4 l2; replace f4 := keepf hb7 f4 l2; replace l0 := Nat.lt_of_lt_of_le l0 hb7.size; replace l1 := Nat.lt_of_lt_of_le l1 hb7.size; replace l2 := Nat.lt_of_lt_of_le l2 hb7.size; replace l100 := Nat.lt_of_lt_of_le l100 hb7.size; replace l101 := Nat.lt_of_lt_of_le l101 hb7.size; replace hx1 := hx1.to hb7; replace hx2 := hx2.to hb7; replace hx3 := hx3.to hb7; replace hy1 := hy1.to hb7; replace hy2 := hy2.to hb7; replace hy3 := hy3.to hb7; replace h1 := h1.to hb7; replace h2 := h2.to hb7; replace h3 := h3.to hb7; replace h4 := h4.to hb7; replace h5 := h5.to hb7; replace HW := Lib.hid (hstep HW hb7); clear hb7; have mk5 : True := trivial)
    | (have _ := mk3; go_at_call 109; refine (rtimes_n (nb y) (nd x) B2 A3 cB2 cA3 _ (by exact hy2) (by exact hx3) (by have := HSY.out; unfold sz at this; omega) (by have := HSX.out; unfold sz at this; omega)).mono ?_; rintro e w6 ⟨S5, d5, rfl, h5, hb6⟩; replace s0_0 := keepc hb6 s0_0 l0; replace s0_1 := keepc hb6 s0_1 l0; replace s0_2 := keepc hb6 s0_2 l0; replace s0_3 := keepc hb6 s0_3 l0; replace s0_4 := keepc hb6 s0_4 l0; replace s1_0 := keepc hb6 s1_0 l1; replace s1_1 := keepc hb6 s1_1 l1; replace s1_2 := keepc hb6 s1_2 l1; replace s1_3 := keepc hb6 s1_3 l1; replace s1_4 := keepc hb6 s1_4 l1; replace t0_0 := keepc hb6 t0_0 l100; replace t0_1 := keepc hb6 t0_1 l100; replace t1_0 := keepc hb6 t1_0 l101; replace t1_1 := keepc hb6 t1_1 l101; replace r0 := keepc hb6 r0 l2; replace f0 := keepf hb6 f0 l2; replace r1 := keepc hb6 r1 l2; replace f1 := keepf hb6 f1 l2; replace r2 := keepc hb6 r2 l2; replace f2 := keepf hb6 f2 l2; replace r3 := keepc hb6 r3 l2; replace f3 := keepf hb6 f3 l2; replace r4 := keepc hb6 r4 l2; replace f4 := keepf hb6 f4 l2; replace l0 := Nat.lt_of_lt_of_le l0 hb6.size; replace l1 := Nat.lt_of_lt_of_le l1 hb6.size; replace l2 := Nat.lt_of_lt_of_le l2 hb6.size; replace l100 := Nat.lt_of_lt_of_le l100 hb6.size; replace l101 := Nat.lt_of_lt_of_le l101 hb6.size; replace hx1 := hx1.to hb6; replace hx2 := hx2.to hb6; replace hx3 := hx3.to hb6; replace hy1 := hy1.to hb6; replace hy2 := hy2.to hb6; replace hy3 := hy3.to hb6; replace h1 := h1.to hb6; replace h2 := h2.to hb6; replace h3 := h3.to hb6; replace h4 := h4.to hb6; replace HW := Lib.hid (hstep HW hb6); clear hb6; have mk4 : True := trivial)
    | (have _ := mk2; go_at_call 109; refine (rtimes_n (nb x) (nd y) A2 B3 cA2 cB3 _ (by exact hx2) (by exact hy3) (by have := HSX.out; unfold sz at this; omega) (by have := HSY.out; unfold sz at this; omega)).mono ?_; rintro e w5 ⟨S4, d4, rfl, h4, hb5⟩; replace s0_0 := keepc hb5 s0_0 l0; replace s0_1 := keepc hb5 s0_1 l0; replace s0_2 := keepc hb5 s0_2 l0; replace s0_3 := keepc hb5 s0_3 l0; replace s0_4 := keepc hb5 s0_4 l0; replace s1_0 := keepc hb5 s1_0 l1; replace s1_1 := keepc hb5 s1_1 l1; replace s1_2 := keepc hb5 s1_2 l1; replace s1_3 := keepc hb5 s1_3 l1; replace s1_4 := keepc hb5 s1_4 l1; replace t0_0 := keepc hb5 t0_0 l100; replace t0_1 := keepc hb5 t0_1 l100; replace t1_0 := keepc hb5 t1_0 l101; replace t1_1 := keepc hb5 t1_1 l101; replace r0 := keepc hb5 r0 l2; replace f0 := keepf hb5 f0 l2; replace r1 := keepc hb5 r1 l2; replace f1 := keepf hb5 f1 l2; replace r2 := keepc hb5 r2 l2; replace f2 := keepf hb5 f2 l2; replace r3 := keepc hb5 r3 l2; replace f3 := keepf hb5 f3 l2; replace r4 := keepc hb5 r4 l2; replace f4 := keepf hb5 f4 l2; replace l0 := Nat.lt_of_lt_of_le l0 hb5.size; replace l1 := Nat.lt_of_lt_of_le l1 hb5.size; replace l2 := Nat.lt_of_lt_of_le l2 hb5.size; replace l100 := Nat.lt_of_lt_of_le l100 hb5.size; replace l101 := Nat.lt_of_lt_of_le l101 hb5.size; replace hx1 := hx1.to hb5; replace hx2 := hx2.to hb5; replace hx3 := hx3.to hb5; replace hy1 := hy1.to hb5; replace hy2 := hy2.to hb5; replace hy3 := hy3.to hb5; replace h1 := h1.to hb5; replace h2 := h2.to hb5; replace h3 := h3.to hb5; replace HW := Lib.hid (hstep HW hb5); clear hb5; have mk3 : True := trivial)
    | (have _ := mk1; go_at_call 108; refine (rplus_any (na x * (nd y : Int)) (na y * (nd x : Int)) S1 S2 d1 d2 _ (by exact h1) (by exact h2) (by have h := ((ab_muln_ln HSX.out.1 HSY.out.2.2)); have h3 := HSX.out; have h4 := HSY.out; unfold sz at h3 h4; omega) (by have h := ((ab_muln_ln HSY.out.1 HSX.out.2.2)); have h3 := HSX.out; have h4 := HSY.out; unfold sz at h3 h4; omega)).mono ?_; rintro e w4 ⟨S3, d3, rfl, h3, hb4⟩; replace s0_0 := keepc hb4 s0_0 l0; replace s0_1 := keepc hb4 s0_1 l0; replace s0_2 := keepc hb4 s0_2 l0; replace s0_3 := keepc hb4 s0_3 l0; replace s0_4 := keepc hb4 s0_4 l0; replace s1_0 := keepc hb4 s1_0 l1; replace s1_1 := keepc hb4 s1_1 l1; replace s1_2 := keepc hb4 s1_2 l1; replace s1_3 := keepc hb4 s1_3 l1; replace s1_4 := keepc hb4 s1_4 l1; replace t0_0 := keepc hb4 t0_0 l100; replace t0_1 := keepc hb4 t0_1 l100; replace t1_0 := keepc hb4 t1_0 l101; replace t1_1 := keepc hb4 t1_1 l101; replace r0 := keepc hb4 r0 l2; replace f0 := keepf hb4 f0 l2; replace r1 := keepc hb4 r1 l2; replace f1 := keepf hb4 f1 l2; replace r2 := keepc hb4 r2 l2; replace f2 := keepf hb4 f2 l2; replace r3 := keepc hb4 r3 l2; replace f3 := keepf hb4 f3 l2; replace r4 := keepc hb4 r4 l2; replace f4 := keepf hb4 f4 l2; replace l0 := Nat.lt_of_lt_of_le l0 hb4.size; replace l1 := Nat.lt_of_lt_of_le l1 hb4.size; replace l2 := Nat.lt_of_lt_of_le l2 hb4.size; replace l100 := Nat.lt_of_lt_of_le l100 hb4.size; replace l101 := Nat.lt_of_lt_of_le l101 hb4.size; replace hx1 := hx1.to hb4; replace hx2 := hx2.to hb4; replace hx3 := hx3.to hb4; replace hy1 := hy1.to hb4; replace hy2 := hy2.to hb4; replace hy3 := hy3.to hb4; replace h1 := h1.to hb4; replace h2 := h2.to hb4; replace HW := Lib.hid (hstep HW hb4); clear hb4; have mk2 : True := trivial)
    | (have _ := mk0; go_at_call 109; refine (rtimes_n (na y) (nd x) B1 A3 cB1 cA3 _ (by exact hy1) (by exact hx3) (by have := HSY.out; unfold sz at this; omega) (by have := HSX.out; unfold sz at this; omega)).mono ?_; rintro e w3 ⟨S2, d2, rfl, h2, hb3⟩; replace s0_0 := keepc hb3 s0_0 l0; replace s0_1 := keepc hb3 s0_1 l0; replace s0_2 := keepc hb3 s0_2 l0; replace s0_3 := keepc hb3 s0_3 l0; replace s0_4 := keepc hb3 s0_4 l0; replace s1_0 := keepc hb3 s1_0 l1; replace s1_1 := keepc hb3 s1_1 l1; replace s1_2 := keepc hb3 s1_2 l1; replace s1_3 := keepc hb3 s1_3 l1; replace s1_4 := keepc hb3 s1_4 l1; replace t0_0 := keepc hb3 t0_0 l100; replace t0_1 := keepc hb3 t0_1 l100; replace t1_0 := keepc hb3 t1_0 l101; replace t1_1 := keepc hb3 t1_1 l101; replace r0 := keepc hb3 r0 l2; replace f0 := keepf hb3 f0 l2; replace r1 := keepc hb3 r1 l2; replace f1 := keepf hb3 f1 l2; replace r2 := keepc hb3 r2 l2; replace f2 := keepf hb3 f2 l2; replace r3 := keepc hb3 r3 l2; replace f3 := keepf hb3 f3 l2; replace r4 := keepc hb3 r4 l2; replace f4 := keepf hb3 f4 l2; replace l0 := Nat.lt_of_lt_of_le l0 hb3.size; replace l1 := Nat.lt_of_lt_of_le l1 hb3.size; replace l2 := Nat.lt_of_lt_of_le l2 hb3.size; replace l100 := Nat.lt_of_lt_of_le l100 hb3.size; replace l101 := Nat.lt_of_lt_of_le l101 hb3.size; replace hx1 := hx1.to hb3; replace hx2 := hx2.to hb3; replace hx3 := hx3.to hb3; replace hy1 := hy1.to hb3; replace hy2 := hy2.to hb3; replace hy3 := hy3.to hb3; replace h1 := h1.to hb3; replace HW := Lib.hid (hstep HW hb3); clear hb3; have mk1 : True := trivial)
    | (go_at_call 109; refine (rtimes_n (na x) (nd y) A1 B3 cA1 cB3 _ (by exact hx1) (by exact hy3) (by have := HSX.out; unfold sz at this; omega) (by have := HSY.out; unfold sz at this; omega)).mono ?_; rintro e w2 ⟨S1, d1, rfl, h1, hb2⟩; have hb2 := undrew hb2; replace s0_0 := keepc hb2 s0_0 l0; replace s0_1 := keepc hb2 s0_1 l0; replace s0_2 := keepc hb2 s0_2 l0; replace s0_3 := keepc hb2 s0_3 l0; replace s0_4 := keepc hb2 s0_4 l0; replace s1_0 := keepc hb2 s1_0 l1; replace s1_1 := keepc hb2 s1_1 l1; replace s1_2 := keepc hb2 s1_2 l1; replace s1_3 := keepc hb2 s1_3 l1; replace s1_4 := keepc hb2 s1_4 l1; replace t0_0 := keepc hb2 t0_0 l100; replace t0_1 := keepc hb2 t0_1 l100; replace t1_0 := keepc hb2 t1_0 l101; replace t1_1 := keepc hb2 t1_1 l101; replace r0 := keepc hb2 r0 l2; replace f0 := keepf hb2 f0 l2; replace r1 := keepc hb2 r1 l2; replace f1 := keepf hb2 f1 l2; replace r2 := keepc hb2 r2 l2; replace f2 := keepf hb2 f2 l2; replace r3 := keepc hb2 r3 l2; replace f3 := keepf hb2 f3 l2; replace r4 := keepc hb2 r4 l2; replace f4 := keepf hb2 f4 l2; replace l0 := Nat.lt_of_lt_of_le l0 hb2.size; replace l1 := Nat.lt_of_lt_of_le l1 hb2.size; replace l2 := Nat.lt_of_lt_of_le l2 hb2.size; replace l100 := Nat.lt_of_lt_of_le l100 hb2.size; replace l101 := Nat.lt_of_lt_of_le l101 hb2.size; replace hx1 := hx1.to hb2; replace hx2 := hx2.to hb2; replace hx3 := hx3.to hb2; replace hy1 := hy1.to hb2; replace hy2 := hy2.to hb2; replace hy3 := hy3.to hb2; replace HW := Lib.hid (hstep HW hb2); clear hb2; have mk0 : True := trivial))
  go_wp2_with fail
  exact bodyPost_ret (v := .agg #[.bool (sn (na (fr (na x * (nd y : Int) + na y * (nd x : Int)) (nb x * (nd y : Int) + nb y * (nd x : Int)) (nd x * nd y)))), .slice Z1 (ln (ab (na (fr (na x * (nd y : Int) + na y * (nd x : Int)) (nb x * (nd y : Int) + nb y * (nd x : Int)) (nd x * nd y))))) cZ1, .bool (sn (nb (fr (na x * (nd y : Int) + na y * (nd x : Int)) (nb x * (nd y : Int) + nb y * (nd x : Int)) (nd x * nd y)))), .slice Z2 (ln (ab (nb (fr (na x * (nd y : Int) + na y * (nd x : Int)) (nb x * (nd y : Int) + nb y * (nd x : Int)) (nd x * nd y))))) cZ2, .slice Z3 (ln (nd (fr (na x * (nd y : Int) + na y * (nd x : Int)) (nb x * (nd y : Int) + nb y * (nd x : Int)) (nd x * nd y)))) cZ3]) (by simp [results, Tryz.results65, go_sem, r0, r1, r2, r3, r4, f0, f1, f2, f3, f4]) rfl (retNumC_fin HW h8 (by omega) r0)
end Go.Proofs.YtdpjknjlhchmcaaGreat

namespace Go.Proofs.YtdpjknjlhchmcaaGreat
open Go.RowKit Pl
set_option linter.unusedVariables false
set_option linter.unusedSimpArgs false
theorem Num3C.mk' {w : World} {A1 A2 A3 : Option Addr} {q : Cx} (h1 : Nat32 w A1 (ab (na q))) (h2 : Nat32 w A2 (ab (nb q))) (h3 : Nat32 w A3 (nd q)) : Num3C w A1 A2 A3 q := ⟨h1, h2, h3⟩
theorem Num3C.as {w : World} {A1 A2 A3 : Option Addr} {q : Cx} {a b : Int} {d : Nat} (h : na q = a ∧ nb q = b ∧ nd q = d) (h1 : Nat32 w A1 (ab a)) (h2 : Nat32 w A2 (ab b)) (h3 : Nat32 w A3 d) : Num3C w A1 A2 A3 q := by
  obtain ⟨rfl, rfl, rfl⟩ := h; exact ⟨h1, h2, h3⟩
theorem rintNeg_z {z y : Int} (hz : y = -z) (A : Option Addr) (cA : Nat) (w : World) (hx : Nat32 w A (ab z)) :
    Calls Tryz.prog 112 #[.agg #[.bool (sn z), .slice A (ln (ab z)) cA]] w (RetWholeC w y) := by rw [hz]; exact rintNeg_any z A cA w hx
set_option maxHeartbeats 4000000 in
theorem rconj_num (x : Cx) (A1 A2 A3 : Option Addr) (cA1 cA2 cA3 : Nat) (w : World) (hx : Num3C w A1 A2 A3 x) :
    Calls Tryz.prog 67 #[.agg #[.bool (sn (na x)), .slice A1 (ln (ab (na x))) cA1, .bool (sn (nb x)), .slice A2 (ln (ab (nb x))) cA2, .slice A3 (ln (nd x)) cA3]] w (RetNumC w x.conj) := by
  obtain ⟨hx1, hx2, hx3⟩ := hx
  obtain ⟨m1, m2, m3⟩ := conj_form x
  have M1 := Lib.hid m1
  have M2 := Lib.hid m2
  have M3 := Lib.hid m3
  clear m1 m2 m3
  go_enter Tryz.func67, Tryz.ntmps67
  go_wp2_with fail
  obtain ⟨W, hW⟩ : ∃ W : World, W = ((w.alloc (.cells #[.bool (sn (na x)), .slice A1 (ln (ab (na x))) cA1, .bool (sn (nb x)), .slice A2 (ln (ab (nb x))) cA2, .slice A3 (ln (nd x)) cA3] 66)).alloc (.cells #[.bool false, .slice none 0 0, .bool false, .slice none 0 0, .slice none 0 0] 66)) := ⟨_, rfl⟩
  have s0_0 : W.cell? ⟨w.heap.size, 0, none⟩ = some (.bool (sn (na x))) := by subst hW; go_simp
  have s0_1 : W.cell? ⟨w.heap.size, 1, none⟩ = some (.slice A1 (ln (ab (na x))) cA1) := by subst hW; go_simp
  have s0_2 : W.cell? ⟨w.heap.size, 2, none⟩ = some (.bool (sn (nb x))) := by subst hW; go_simp
  have s0_3 : W.cell? ⟨w.heap.size, 3, none⟩ = some (.slice A2 (ln (ab (nb x))) cA2) := by subst hW; go_simp
  have s0_4 : W.cell? ⟨w.heap.size, 4, none⟩ = some (.slice A3 (ln (nd x)) cA3) := by subst hW; go_simp
  have r0 : W.cell? ⟨w.heap.size + 1, 0, none⟩ = some (.bool false) := by subst hW; go_simp
  have f0 : W.frozen? ⟨w.heap.size + 1, 0, none⟩ = false := by subst hW; go_simp
  have r1 : W.cell? ⟨w.heap.size + 1, 1, none⟩ = some (.slice none 0 0) := by subst hW; go_simp
  have f1 : W.frozen? ⟨w.heap.size + 1, 1, none⟩ = false := by subst hW; go_simp
  have r2 : W.cell? ⟨w.heap.size + 1, 2, none⟩ = some (.bool false) := by subst hW; go_simp
  have f2 : W.frozen? ⟨w.heap.size + 1, 2, none⟩ = false := by subst hW; go_simp
  have r3 : W.cell? ⟨w.heap.size + 1, 3, none⟩ = some (.slice none 0 0) := by subst hW; go_simp
  have f3 : W.frozen? ⟨w.heap.size + 1, 3, none⟩ = false := by subst hW; go_simp
  have r4 : W.cell? ⟨w.heap.size + 1, 4, none⟩ = some (.slice none 0 0) := by subst hW; go_simp
  have f4 : W.frozen? ⟨w.heap.size + 1, 4, none⟩ = false := by subst hW; go_simp
  have HW : Below w.heap.size w W := by subst hW; exact (((Below.refl w.heap.size w).alloc (Nat.le_refl _) _).alloc (by simp) _)
  have l0 : w.heap.size < W.heap.size := by subst hW; simp <;> omega
  have l1 : w.heap.size + 1 < W.heap.size := by subst hW; simp
  have n0 : w.heap.size ≠ w.heap.size + 1 := by omega
  replace hx1 := hx1.to HW
  replace hx2 := hx2.to HW
  replace hx3 := hx3.to HW
  rw [← hW]
  clear hW
  replace HW := Lib.hid HW
  go_region_held3 (fun w' => w'.cell? ⟨w.heap.size, 0, none⟩ = some (.bool (sn (na x))) ∧ w'.cell? ⟨w.heap.size, 1, none⟩ = some (.slice A1 (ln (ab (na x))) cA1) ∧ w'.cell? ⟨w.heap.size, 2, none⟩ = some (.bool (sn (nb x))) ∧ w'.cell? ⟨w.heap.size, 3, none⟩ = some (.slice A2 (ln (ab (nb x))) cA2) ∧ w'.cell? ⟨w.heap.size, 4, none⟩ = some (.slice A3 (ln (nd x)) cA3)) (first | with_reducible exact ⟨s0_0, s0_1, s0_2, s0_3, s0_4⟩ | with_reducible exact ⟨(keeps (keeps (keeps (keeps (keeps s0_0 n0) n0) n0) n0) n0), (keeps (keeps (keeps (keeps (keeps s0_1 n0) n0) n0) n0) n0), (keeps (keeps (keeps (keeps (keeps s0_2 n0) n0) n0) n0) n0), (keeps (keeps (keeps (keeps (keeps s0_3 n0) n0) n0) n0) n0), (keeps (keeps (keeps (keeps (keeps s0_4 n0) n0) n0) n0) n0)⟩ | exact ⟨s0_0, s0_1, s0_2, s0_3, s0_4⟩) (first
    | (go_at_call 112; refine (rintNeg_z M2.out A2 cA2 _ (by exact hx2)).mono ?_; rintro e w1 ⟨S2, d2, rfl, h2, hb1⟩; have hb1 := undrew hb1; replace s0_0 := keepc hb1 s0_0 l0; replace s0_1 := keepc hb1 s0_1 l0; replace s0_2 := keepc hb1 s0_2 l0; replace s0_3 := keepc hb1 s0_3 l0; replace s0_4 := keepc hb1 s0_4 l0; replace r0 := keepc hb1 r0 l1; replace f0 := keepf hb1 f0 l1; replace r1 := keepc hb1 r1 l1; replace f1 := keepf hb1 f1 l1; replace r2 := keepc hb1 r2 l1; replace f2 := keepf hb1 f2 l1; replace r3 := keepc hb1 r3 l1; replace f3 := keepf hb1 f3 l1; replace r4 := keepc hb1 r4 l1; replace f4 := keepf hb1 f4 l1; replace l0 := Nat.lt_of_lt_of_le l0 hb1.size; replace l1 := Nat.lt_of_lt_of_le l1 hb1.size; replace hx1 := hx1.to hb1; replace hx2 := hx2.to hb1; replace hx3 := hx3.to hb1; replace HW := Lib.hid (hstep HW hb1); clear hb1))
  go_wp2_with fail
  rw [← M3.out] at hx3 ⊢
  rw [← M1.out] at hx1 ⊢
  exact bodyPost_ret (v := .agg #[.bool (sn (na x.conj)), .slice A1 (ln (ab (na x.conj))) cA1, .bool (sn (nb x.conj)), .slice S2 (ln (ab (nb x.conj))) d2, .slice A3 (ln (nd x.conj)) cA3]) (by simp [results, Tryz.results67, go_sem, r0, r1, r2, r3, r4, f0, f1, f2, f3, f4]) rfl (retNumC_fin HW (Num3C.mk' hx1 h2 hx3) (by omega) r0)
end Go.Proofs.YtdpjknjlhchmcaaGreat
