/- The program's rounding of a fraction to a format. 'signed' at any whole number, over what 'round' gives. 'signed' whole; 'Near', 'Below', 'Above' at any number. Words of float32: numbers that it has. -/
import Derived.Test.YtgpmlhpgdalheaaGreatJA
import Derived.Test.YtgpmlhpgdalheaaGreatRound
import Derived.Test.YtgpmlhpgdalheaaGreatNum2
namespace Go.Proofs.YtgpmlhpgdalheaaGreat
open Go.RowKit Pl Fl
set_option linter.unusedVariables false
set_option linter.unusedSimpArgs false

set_option maxHeartbeats 1000000 in
/-- 'Ldexp(0, k)'. -/
theorem ldexp_zero (k : Int) (w : World) : Calls Tryz.prog 184 #[.float .f64 0, .int .i64 k] w (fun r w' => r = .returned (.float .f64 0) ∧ w' = w) := by
  have e4 : (FloatKind.f64.format.order 0 0 == some Ordering.eq) = true := by kernel_rfl
  go_enter Tryz.func184, Tryz.ntmps184
  go_wp2
  go_ret
  exact ⟨rfl, rfl⟩
theorem conv_fl (m : Nat) (w : World) : (convert 85 44 (.int .u64 (m : Nat))).run Tryz.prog w = .ok (.float .f64 (fl m 0)) w := by
  rw [run_convert_int_float w _ _ .u64 .f64 (m : Nat) (by kernel_rfl) Tryz.underlying44]
  have e : floatOfInt .f64 (m : Int) = fl m 0 := by
    show Ieee.double.nearest (decide ((m : Int) < 0)) (m : Int).natAbs 0 = Ieee.double.nearest false m 0
    rw [decide_eq_false (by omega), Int.natAbs_natCast]
  rw [e]
theorem join32r {v d : Nat} (hv : v < 2097152) (hd : d < 4294967296) : bits .or .u64 (d : Int) ((v : Int) * 4294967296) = ((v * 4294967296 + d : Nat) : Int) := by
  have c : bits .or .u64 (d : Int) ((v : Int) * 4294967296) = bits .or .u64 ((v : Int) * 4294967296) (d : Int) :=
    congrArg (fun z : BitVec 64 => IntKind.u64.wrap (z.toNat : Int)) (BitVec.or_comm (BitVec.ofInt 64 (d : Int)) (BitVec.ofInt 64 ((v : Int) * 4294967296)))
  rw [c]; exact join32 hv hd
/-- Whether the kept digits are counted up: 0 down, 1 up, 2 to nearest. -/
def incW (wy : Int) (size : Nat) (low : Int) (n d : Nat) : Bool := if wy = 0 then false else if wy = 1 then decide (rr n d (lst size low n d) ≠ 0) else incN size low n d
/-- What 'round' gives. -/
def prnd (size : Nat) (low top : Int) (n d : Nat) (wy : Int) : Nat := if wy = 0 ∧ top ≤ lgq n d then fl (2 ^ size - 1) (top - size) else rnd size low top n d (incW wy size low n d)

set_option maxRecDepth 100000 in
set_option maxHeartbeats 4000000 in
theorem round_double (n d : Nat) (wy : Int) (N D : Option Addr) (w : World) (hw : wy = 0 ∨ wy = 1 ∨ wy = 2) (hx : Nat32 w N n) (hy : Nat32 w D d) (hn : n ≠ 0) (hd : d ≠ 0) (hbx : ln n ≤ 100000) (hby : ln d ≤ 100000) :
    Calls Tryz.prog 144 #[.agg #[.int .i64 53, .int .i64 (-1074), .int .i64 1023], .slice N (ln n) (ln n), .slice D (ln d) (ln d), .int .i64 wy] w (fun r w' => r = .returned (.float .f64 (prnd 53 (-1074) 1024 n d wy)) ∧ Below w.heap.size w w') := by
  have lx := ln_pos hn
  have t0 : ((ln n : Int) == 0) = false := by rw [beq_eq_false_iff_ne]; omega
  have la := log2_ln hn
  have ld := log2_ln hd
  have lg := lgq_near n d
  obtain ⟨k, hk⟩ : ∃ k : Int, k = (n.log2 : Int) - d.log2 := ⟨_, rfl⟩
  have na := nbits_log hn
  have nd := nbits_log hd
  have hkb : -3200000 ≤ k ∧ k ≤ 3200000 := by omega
  have HK : Hid ((nbits n : Int) - nbits d = k) := Lib.hid (by omega)
  obtain ⟨g, hg⟩ : ∃ g, g = lgq n d := ⟨_, rfl⟩
  have HG : Hid (g = if Bl n d k then k - 1 else k) := Lib.hid (by rw [hg, hk]; rfl)
  have hgb : -3300000 ≤ g ∧ g ≤ 3300000 := by omega
  obtain ⟨T, hT⟩ : ∃ T, T = lst 53 (-1074) n d := ⟨_, rfl⟩
  have HTG : Hid (T = max (g - 53 + 1) (-1074)) := Lib.hid (by rw [hT, hg]; unfold lst; omega)
  have hqb : qq n d T < 2 ^ 53 := by rw [hT]; exact lst_lt hn hd
  obtain ⟨inc, hinc⟩ : ∃ inc, inc = incW wy 53 (-1074) n d := ⟨_, rfl⟩
  have HIN : Hid (inc = if wy = 0 then false else if wy = 1 then decide (rr n d T ≠ 0) else (decide (un2 d T < 2 * rr n d T) || (decide (un2 d T = 2 * rr n d T) && decide (qq n d T % 2 = 1)))) := Lib.hid (by rw [hinc, hT]; rfl)
  obtain ⟨V, hV⟩ : ∃ V, V = prnd 53 (-1074) 1024 n d wy := ⟨_, rfl⟩
  have HV1 : Hid (V = if wy = 0 ∧ 1024 ≤ g then fl (2 ^ 53 - 1) (1024 - (53 : Nat)) else if qq n d T + inc.toNat = 0 then 0 else if 1024 ≤ ((qq n d T + inc.toNat).log2 : Int) + T then 9218868437227405312 else fl (qq n d T + inc.toNat) T) := Lib.hid (by rw [hV, hg, hinc, hT]; rfl)
  rw [← hV]
  have HB : Hid (nbits n ≤ 3200000 ∧ nbits d ≤ 3200000) := Lib.hid (by omega)
  have HN := Lib.hid hn
  have HD := Lib.hid hd
  have HX := Lib.hid hbx
  have HY := Lib.hid hby
  have HQB := Lib.hid hqb
  have HGQ := Lib.hid hg
  have HW3 := Lib.hid hw
  have k1 := hkb.1
  have k2 := hkb.2
  have g1 := hgb.1
  have g2 := hgb.2
  clear la ld lg hk na nd hkb hgb hg hT hqb hinc hV hn hd hbx hby lx hw
  go_enter Tryz.func144, Tryz.ntmps144
  go_wp2_with fail
  obtain ⟨W, hW⟩ : ∃ W : World, W = (w.alloc (.cells #[.int .i64 53, .int .i64 (-1074), .int .i64 1023] 126)) := ⟨_, rfl⟩
  have s0 : W.cell? ⟨w.heap.size, 0, none⟩ = some (.int .i64 53) := by subst hW; go_simp
  have s1 : W.cell? ⟨w.heap.size, 1, none⟩ = some (.int .i64 (-1074)) := by subst hW; go_simp
  have s2 : W.cell? ⟨w.heap.size, 2, none⟩ = some (.int .i64 1023) := by subst hW; go_simp
  have HW : Below w.heap.size w W := by subst hW; exact ((Below.refl w.heap.size w).alloc (Nat.le_refl _) _)
  have l0 : w.heap.size < W.heap.size := by subst hW; simp
  replace hx := hx.to HW
  replace hy := hy.to HW
  rw [← hW]
  clear hW
  replace HW := Lib.hid HW
  refine (len_any n N _ (by exact hx) (by have := HX.out; omega)).mono ?_
  rintro e w9 ⟨rfl, rfl⟩
  go_wp2_with fail
  refine (len_any d D _ (by exact hy) (by have := HY.out; omega)).mono ?_
  rintro e w9 ⟨rfl, rfl⟩
  have W0 : wrap64 ((nbits n : Int) - nbits d) = k := (wrap_si (by have := HB.out; omega) (by have := HB.out; omega)).trans HK.out
  go_wp2_with fail
  have HP1 : Hid (ln (n * 2 ^ (-k).toNat) ≤ 300000 ∧ ln (d * 2 ^ k.toNat) ≤ 300000 ∧ (-k).toNat ≤ 3200000 ∧ k.toNat ≤ 3200000) := Lib.hid (by
    have := ln_mul n (2 ^ (-k).toNat); have := ln_pow2 (-k).toNat; have := ln_mul d (2 ^ k.toNat); have := ln_pow2 k.toNat; have := HX.out; have := HY.out; omega)
  refine (shl_to n (-k).toNat N _ (by exact hx) (by have := HX.out; omega) (by have := HP1.out; omega) (by omega) rfl).mono ?_
  rintro e w1 ⟨B1, rfl, h1, hb1⟩
  replace s0 := keepc hb1 s0 l0
  replace s1 := keepc hb1 s1 l0
  replace s2 := keepc hb1 s2 l0
  replace l0 := Nat.lt_of_lt_of_le l0 hb1.size
  replace hx := hx.to hb1
  replace hy := hy.to hb1
  replace HW := Lib.hid (hstep HW hb1)
  clear hb1
  go_wp2_with fail
  refine (shl_to d k.toNat D _ (by exact hy) (by have := HY.out; omega) (by have := HP1.out; omega) (by omega) rfl).mono ?_
  rintro e w2 ⟨B2, rfl, h2, hb2⟩
  replace s0 := keepc hb2 s0 l0
  replace s1 := keepc hb2 s1 l0
  replace s2 := keepc hb2 s2 l0
  replace l0 := Nat.lt_of_lt_of_le l0 hb2.size
  replace hx := hx.to hb2
  replace hy := hy.to hb2
  replace h1 := h1.to hb2
  replace HW := Lib.hid (hstep HW hb2)
  clear hb2
  go_wp2_with fail
  obtain ⟨cv, hcv⟩ : ∃ cv, cmpN (n * 2 ^ (-k).toNat) (d * 2 ^ k.toNat) = cv := ⟨_, rfl⟩
  have HCV : Hid (cv < 0 ↔ Bl n d k) := Lib.hid (by rw [← hcv]; unfold cmpN Bl; split <;> (try split) <;> simp_all)
  refine (cmpn_to (n * 2 ^ (-k).toNat) (d * 2 ^ k.toNat) B1 B2 _ (by exact h1) (by exact h2) (by have := HP1.out; omega) hcv).mono ?_
  rintro e w3 ⟨rfl, hb3⟩
  replace s0 := keepc hb3 s0 l0
  replace s1 := keepc hb3 s1 l0
  replace s2 := keepc hb3 s2 l0
  replace l0 := Nat.lt_of_lt_of_le l0 hb3.size
  replace hx := hx.to hb3
  replace hy := hy.to hb3
  replace HW := Lib.hid (hstep HW hb3)
  clear hb3 h1 h2 hcv
  go_upto_if 36 with fail
  go_cut [9] (fun e wx => e = .int .i64 g ∧ wx = w3)
  case first =>
    by_cases hlt : Bl n d k
    · have t1 : cv < 0 := HCV.out.2 hlt
      have t2 : decide (cv < 0) = true := decide_eq_true t1
      have e3 : g = k - 1 := HG.out.trans (if_pos hlt)
      clear hlt
      go_wp2_with fail
      go_meet
      exact ⟨by rw [e3], rfl⟩
    · have t1 : ¬ cv < 0 := fun h => hlt (HCV.out.1 h)
      have t2 : decide (cv < 0) = false := decide_eq_false t1
      have e3 : g = k := HG.out.trans (if_neg hlt)
      clear hlt
      go_wp2_with fail
      go_meet
      exact ⟨by rw [e3], rfl⟩
  case rest =>
  obtain ⟨hc1, hc2⟩ := hcut
  subst hc1
  rw [hc2]
  clear hc2 wc W0
  by_cases htop : 1023 < g
  · have t1 : decide ((1023 : Int) < g) = true := decide_eq_true htop
    have HRN : Hid (wy ≠ 0 → V = 9218868437227405312) := Lib.hid (fun h0 => by
      rw [HV1.out, if_neg (fun h => h0 h.1)]
      have hT : T = g - 53 + 1 := by have := HTG.out; omega
      have hq : 2 ^ (53 - 1) ≤ qq n d T := by
        have := mt (qq_lt HN.out HD.out T (53 - 1)).1 (by rw [← HGQ.out, hT]; omega)
        omega
      have hq0 : qq n d T + inc.toNat ≠ 0 := by have : 0 < 2 ^ (53 - 1) := Nat.pow_pos (by omega); omega
      have hl : 53 - 1 ≤ (qq n d T + inc.toNat).log2 := (Nat.le_log2 hq0).2 (by omega)
      rw [if_neg hq0, if_pos (by omega)])
    have HR0 : Hid (wy = 0 → V = fl (2 ^ 53 - 1) (1023 - 53 + 1)) := Lib.hid (fun h0 => by
      rw [HV1.out, if_pos ⟨h0, by omega⟩]; congr 1)
    clear htop
    by_cases hw0 : wy = 0
    · have E := Lib.hid (HR0.out hw0)
      have y1 : (wy == 0) = true := by rw [hw0]; rfl
      clear hw0
      have hcv := conv_fl 9007199254740991
      have e0 : ((9007199254740991 : Nat) : Int) = 9007199254740991 := rfl
      rw [e0] at hcv
      clear e0
      have LE : ∀ w : World, Calls Tryz.prog 184 #[.float .f64 (fl 9007199254740991 0), .int .i64 971] w (fun r w' => r = .returned (.float .f64 (fl 9007199254740991 971)) ∧ w' = w) := fun w => ldexp_fl 9007199254740991 971 w (by decide) (by decide) (by decide) (by decide)
      have E2 : Hid (V = fl 9007199254740991 971) := Lib.hid (by rw [E.out]; rfl)
      clear E
      clear HR0 HRN HV1 HN HD HX HY HQB HGQ HIN HTG HG
      go_wp2_with fail
      go_region_held3 (fun w' => w'.cell? ⟨w.heap.size, 0, none⟩ = some (.int .i64 53) ∧ w'.cell? ⟨w.heap.size, 2, none⟩ = some (.int .i64 1023)) (first | with_reducible exact ⟨s0, s2⟩ | with_reducible exact ⟨keepd s0, keepd s2⟩ | exact ⟨s0, s2⟩ | go_keep) (first
        | (go_at_call 184; refine (LE _).mono ?_; rintro r w10 ⟨rfl, rfl⟩))
      go_wp2_with fail
      go_ret
      exact ⟨by rw [E2.out]; rfl, by first | exact HW.out | exact ⟨HW.out.os, HW.out.tape, HW.out.output, HW.out.size, HW.out.block⟩⟩
    · have E := Lib.hid (HRN.out hw0)
      have y1 : (wy == 0) = false := beq_eq_false_iff_ne.2 hw0
      clear hw0
      go_wp2_with fail
      refine (inf_pos _).mono ?_
      rintro r w10 ⟨rfl, rfl⟩
      go_wp2_with fail
      go_ret
      exact ⟨by rw [E.out]; rfl, HW.out⟩
  · have t1 : decide ((1023 : Int) < g) = false := decide_eq_false htop
    replace HV1 := Lib.hid (HV1.out.trans (if_neg (fun h => htop (by omega))))
    have HTOP := Lib.hid htop
    go_upto_region 10 with fail
    go_cut [10] (fun l wx => l = .int .i64 T ∧ wx = w3)
    case first =>
      go_wp2_with fail
      go_meet
      exact ⟨by rw [HTG.out], rfl⟩
    case rest =>
    obtain ⟨hc1, hc2⟩ := hcut
    subst hc1
    rw [hc2]
    clear hc2 wc t1
    have tb : Hid (-1074 ≤ T ∧ T ≤ 1023) := Lib.hid (by have := HTG.out; omega)
    have tb1 := tb.out.1
    have tb2 := tb.out.2
    have HU : Hid (ln (un2 d T) ≤ 300000 ∧ un2 d T ≠ 0 ∧ ln (n * 2 ^ (-T).toNat) ≤ 300000) := Lib.hid ⟨by unfold un2; have := ln_mul d (2 ^ T.toNat); have := ln_pow2 T.toNat; have := HY.out; omega, by have := un2_pos HD.out T; omega, by have := ln_mul n (2 ^ (-T).toNat); have := ln_pow2 (-T).toNat; have := HX.out; omega⟩
    go_wp2_with fail
    refine (shl_to d T.toNat D _ (by exact hy) (by have := HY.out; omega) (by omega) (by omega) (v := un2 d T) rfl).mono ?_
    rintro e w4 ⟨B3, rfl, h3, hb4⟩
    replace s0 := keepc hb4 s0 l0
    replace s2 := keepc hb4 s2 l0
    replace l0 := Nat.lt_of_lt_of_le l0 hb4.size
    replace hx := hx.to hb4
    replace HW := Lib.hid (hstep HW hb4)
    clear hb4 s1 hy
    go_wp2_with fail
    refine (shl_to n (-T).toNat N _ (by exact hx) (by have := HX.out; omega) (by omega) (by omega) rfl).mono ?_
    rintro e w5 ⟨B4, rfl, h4, hb5⟩
    replace s0 := keepc hb5 s0 l0
    replace s2 := keepc hb5 s2 l0
    replace l0 := Nat.lt_of_lt_of_le l0 hb5.size
    replace h3 := h3.to hb5
    replace HW := Lib.hid (hstep HW hb5)
    clear hb5 hx
    go_wp2_with fail
    refine (divn_to (n * 2 ^ (-T).toNat) (un2 d T) B4 B3 _ (by exact h4) (by exact h3) (by have := HU.out; omega) (by have := HU.out; omega) HU.out.2.1 (q := qq n d T) (r := rr n d T) rfl rfl).mono ?_
    rintro e w6 ⟨Q, R, rfl, hQ, hR, hb6⟩
    replace s0 := keepc hb6 s0 l0
    replace s2 := keepc hb6 s2 l0
    replace l0 := Nat.lt_of_lt_of_le l0 hb6.size
    replace h3 := h3.to hb6
    replace HW := Lib.hid (hstep HW hb6)
    clear hb6 h4
    obtain ⟨q0, hq0⟩ : ∃ q0, q0 = qq n d T := ⟨_, rfl⟩
    rw [← hq0] at hQ HQB HIN HV1 ⊢
    clear hq0
    have HQL : Hid (ln q0 ≤ 2 ∧ q0 < 9007199254740992) := Lib.hid (by
      have h1 := HQB.out
      have h2 : 2 ^ 53 ≤ 2 ^ 53 := Nat.pow_le_pow_right (by omega) (by omega)
      rw [show (2 : Nat) ^ 53 = 9007199254740992 by decide] at h2
      exact ⟨ln_le (by rw [show (4294967296 : Nat) ^ 2 = 18446744073709551616 by decide]; omega), by omega⟩)
    go_wp2_with fail
    go_loopg [14, 15, 16, 82] (ln q0) (fun gm m i v x wr => ∃ j : Nat, x = .int .i64 (j : Nat) ∧ Hid (j + gm = ln q0) ∧ m = .int .u64 ((q0 % 4294967296 ^ j : Nat) : Int) ∧ wr = w6)
    case atStart => exact ⟨0, rfl, Lib.hid (by omega), by rw [Nat.pow_zero, Nat.mod_one]; rfl, rfl⟩
    case round =>
      obtain ⟨j, rfl, hj, rfl, rfl⟩ := hrel
      by_cases hlt : j < ln q0
      · have hq1 : q0 ≠ 0 := fun e => by rw [e, ln_zero] at hlt; omega
        obtain ⟨b, rfl, hb, hc⟩ := hQ hq1
        have hcj := hc j hlt
        have wl := wd_lt q0 j
        have hj2 : j = 0 ∨ j = 1 := by have := HQL.out; omega
        clear hc
        have x1 : (j : Int) < (ln q0 : Int) := by omega
        rcases hj2 with rfl | rfl
        · have o0 : bits .or .u64 0 (wd q0 0 : Int) = (wd q0 0 : Int) := by
            have := bits_or_u64_nat 0 (wd q0 0) (by omega) (by omega); simpa using this
          have em : q0 % 4294967296 ^ 0 = 0 := by rw [Nat.pow_zero, Nat.mod_one]
          have en : Hid (q0 % 4294967296 ^ 1 = wd q0 0) := Lib.hid (by rw [Nat.pow_one, wd_0])
          rw [em]
          clear em hlt
          go_wp2_with fail
          go_roundg (gk - 1)
          case measure => have := hj.out; omega
          case rel => exact ⟨1, rfl, Lib.hid (by have := hj.out; omega), by rw [en.out], rfl⟩
        · obtain ⟨lo, hlo⟩ : ∃ lo, lo = q0 % 4294967296 := ⟨_, rfl⟩
          obtain ⟨hi, hhi⟩ : ∃ hi, hi = wd q0 1 := ⟨_, rfl⟩
          have h1 : hi = q0 / 4294967296 := by rw [hhi, wd, Nat.pow_one]; exact Nat.mod_eq_of_lt (by have := HQL.out; omega)
          have em : q0 % 4294967296 ^ 1 = lo := by rw [Nat.pow_one, hlo]
          have en : Hid (q0 % 4294967296 ^ 2 = hi * 4294967296 + lo) := Lib.hid (by rw [Nat.mod_eq_of_lt (by rw [show (4294967296 : Nat) ^ 2 = 18446744073709551616 by decide]; have := HQL.out; omega), h1, hlo]; omega)
          have o1 := join32r (v := hi) (d := lo) (by have := HQL.out; omega) (by omega)
          rw [em]
          rw [← hhi] at hcj wl
          obtain ⟨Y, hY⟩ : ∃ Y, Y = hi * 4294967296 + lo := ⟨_, rfl⟩
          rw [← hY] at o1 en
          have hib : hi < 2097152 := by have := HQL.out; omega
          clear em hlt hY hlo hhi h1
          go_wp2_with fail
          go_roundg (gk - 1)
          case measure => have := hj.out; omega
          case rel => exact ⟨2, rfl, Lib.hid (by have := hj.out; omega), by rw [en.out], rfl⟩
      · have ej : j = ln q0 := by have := hj.out; omega
        have em : q0 % 4294967296 ^ j = q0 := by rw [ej]; exact Nat.mod_eq_of_lt (lt_ln q0)
        have x1 : ¬ (j : Int) < (ln q0 : Int) := by omega
        rw [em]
        clear em hlt
        have HRL : Hid (ln (rr n d T) ≤ 300000) := Lib.hid (Nat.le_trans (ln_mono (Nat.le_of_lt (rr_lt HD.out T))) HU.out.1)
        go_wp2_with fail
        refine (shl_to (rr n d T) 1 R _ (by exact hR) (by have := HRL.out; omega) (by omega) (by rfl) (v := 2 * rr n d T) (by omega)).mono ?_
        rintro e w7 ⟨B5, rfl, h5, hb7⟩
        replace s0 := keepc hb7 s0 l0
        replace s2 := keepc hb7 s2 l0
        replace l0 := Nat.lt_of_lt_of_le l0 hb7.size
        replace h3 := h3.to hb7
        replace HW := Lib.hid (hstep HW hb7)
        clear hb7
        go_wp2_with fail
        obtain ⟨hf, hhf⟩ : ∃ hf, cmpN (2 * rr n d T) (un2 d T) = hf := ⟨_, rfl⟩
        have HHF : Hid ((un2 d T < 2 * rr n d T ↔ 0 < hf) ∧ (un2 d T = 2 * rr n d T ↔ hf = 0)) := Lib.hid (by rw [← hhf]; unfold cmpN; split <;> (try split) <;> omega)
        refine (cmpn_to (2 * rr n d T) (un2 d T) B5 B3 _ (by exact h5) (by exact h3) (Nat.le_trans (ln_mul 2 _) (by have := HRL.out; have : ln 2 ≤ 1 := ln_le (by decide); omega)) hhf).mono ?_
        rintro e w8 ⟨rfl, hb8⟩
        replace s0 := keepc hb8 s0 l0
        replace s2 := keepc hb8 s2 l0
        replace l0 := Nat.lt_of_lt_of_le l0 hb8.size
        replace HW := Lib.hid (hstep HW hb8)
        clear hb8 h5 h3 hhf hR hQ
        go_upto_region 20 with fail
        go_cut [122] (fun b wx => b = .bool inc ∧ wx = w8)
        case first =>
          rcases HW3.out with hw | hw | hw
          · have e : inc = false := by rw [HIN.out, if_pos hw]
            have y1 : (wy == 1) = false := by rw [hw]; rfl
            have y2 : (wy == 2) = false := by rw [hw]; rfl
            clear hw
            go_wp2_with fail
            go_meet
            exact ⟨by rw [e], rfl⟩
          · have e : inc = decide (rr n d T ≠ 0) := by rw [HIN.out, if_neg (by omega), if_pos hw]
            have y1 : (wy == 1) = true := by rw [hw]; rfl
            have y2 : (wy == 2) = false := by rw [hw]; rfl
            by_cases hr : rr n d T = 0
            · have e2 : inc = false := by rw [e, decide_eq_false (by simpa using hr)]
              have y3 : ¬ 0 < ln (rr n d T) := by rw [hr, ln_zero]; omega
              have y4 : ¬ (0 : Int) < (ln (rr n d T) : Int) := by omega
              clear hw hr e
              go_wp2_with fail
              go_meet
              exact ⟨by rw [e2], rfl⟩
            · have e2 : inc = true := by rw [e, decide_eq_true hr]
              have y3 : 0 < ln (rr n d T) := ln_pos hr
              have y4 : (0 : Int) < (ln (rr n d T) : Int) := by omega
              clear hw hr e
              go_wp2_with fail
              go_meet
              exact ⟨by rw [e2], rfl⟩
          · have e : inc = (decide (0 < hf) || (decide (hf = 0) && decide (q0 % 2 = 1))) := by
              rw [HIN.out, if_neg (by omega), if_neg (by omega)]
              simp only [HHF.out.1, HHF.out.2]
            have y1 : (wy == 1) = false := by rw [hw]; rfl
            have y2 : (wy == 2) = true := by rw [hw]; rfl
            by_cases h1 : 0 < hf
            · have e2 : inc = true := by rw [e, decide_eq_true h1]; rfl
              clear hw e
              go_wp2_with fail
              go_meet
              exact ⟨by rw [e2], rfl⟩
            · by_cases h2 : hf = 0
              · have e2 : inc = decide (q0 % 2 = 1) := by rw [e, decide_eq_false h1, decide_eq_true h2]; rfl
                have y3 : (hf == 0) = true := by rw [h2]; rfl
                have y4 : (((q0 % 2 : Nat) : Int) == 1) = decide (q0 % 2 = 1) := by rw [Bool.eq_iff_iff, beq_iff_eq, decide_eq_true_eq]; omega
                clear hw e h2
                go_wp2_with fail
                go_meet
                exact ⟨by rw [e2, ← y4]; rfl, rfl⟩
              · have e2 : inc = false := by rw [e, decide_eq_false h1, decide_eq_false h2]; rfl
                have y3 : (hf == 0) = false := beq_eq_false_iff_ne.2 h2
                clear hw e
                go_wp2_with fail
                go_meet
                exact ⟨by rw [e2], rfl⟩
        case rest =>
        obtain ⟨hc1, hc2⟩ := hcut
        subst hc1
        rw [hc2]
        clear hc2 wc HIN
        obtain ⟨m, hm⟩ : ∃ m, m = q0 + inc.toNat := ⟨_, rfl⟩
        rw [← hm] at HV1
        have HMB : Hid (m ≤ 2 ^ 53 ∧ m ≤ 9007199254740992) := Lib.hid (by
          have h1 := HQB.out
          have h2 := HQL.out
          have h3 : inc.toNat ≤ 1 := by cases inc <;> decide
          omega)
        have HM := Lib.hid hm
        clear hm
        have qb : (q0 : Int) < 9007199254740992 := by have := HQL.out; omega
        go_upto_if 122 with fail
        go_cut [14] (fun mm wx => mm = .int .u64 (m : Nat) ∧ wx = w8)
        case first =>
          cases inc with
          | true =>
            have e : m = q0 + 1 := HM.out
            go_wp2_with fail
            go_meet
            exact ⟨by rw [e]; rfl, rfl⟩
          | false =>
            have e : m = q0 := HM.out
            go_wp2_with fail
            go_meet
            exact ⟨by rw [e], rfl⟩
        case rest =>
        obtain ⟨hc1, hc2⟩ := hcut
        subst hc1
        rw [hc2]
        clear hc2 wc qb
        have HTT : Hid (T ≤ 1023 - 53 + 1) := Lib.hid (by have := HTG.out; have := HTOP.out; omega)
        have HTB := Lib.hid (And.intro tb1 tb2)
        obtain ⟨c, hc⟩ : ∃ c, c = decide (m = 2 ^ 53 ∧ T = 1023 - 53 + 1) := ⟨_, rfl⟩
        have HC := Lib.hid hc
        clear hc
        go_upto_region 22 with fail
        go_cut [139] (fun b wx => b = .bool c ∧ wx = w8)
        case first =>
          have p53 : (2 : Nat) ^ 53 = 9007199254740992 := by decide
          by_cases c1 : m = 2 ^ 53
          · have x1 : ((m : Int) == 9007199254740992) = true := by rw [beq_iff_eq]; omega
            have e1 : c = decide (T = 1023 - 53 + 1) := by rw [HC.out]; simp [c1]
            have x2 : (T == 971) = decide (T = 1023 - 53 + 1) := by rw [Bool.eq_iff_iff, beq_iff_eq, decide_eq_true_eq]; omega
            clear c1 p53
            go_wp2_with fail
            go_meet
            exact ⟨by rw [e1, ← x2]; rfl, rfl⟩
          · have x1 : ((m : Int) == 9007199254740992) = false := by rw [beq_eq_false_iff_ne]; omega
            have e1 : c = false := by rw [HC.out]; simp [c1]
            clear c1 p53
            go_wp2_with fail
            go_meet
            exact ⟨by rw [e1], rfl⟩
        case rest =>
        obtain ⟨hc1, hc2⟩ := hcut
        subst hc1
        rw [hc2]
        clear hc2 wc
        cases c with
        | true =>
          have h1 := of_decide_eq_true HC.out.symm
          have E : Hid (V = 9218868437227405312) := Lib.hid (HV1.out.trans ((if_neg (by rw [h1.1]; decide)).trans (if_pos (by rw [h1.1, Nat.log2_two_pow]; omega))))
          clear h1
          go_wp2_with fail
          refine (inf_pos _).mono ?_
          rintro r w10 ⟨rfl, rfl⟩
          go_wp2_with fail
          go_ret
          exact ⟨by rw [E.out]; rfl, HW.out⟩
        | false =>
          have h1 := of_decide_eq_false HC.out.symm
          have hcv := conv_fl m
          by_cases hm0 : m = 0
          · have E : Hid (V = 0) := Lib.hid (HV1.out.trans (if_pos hm0))
            have ez : fl m 0 = 0 := by rw [hm0]; rfl
            rw [ez] at hcv
            clear hm0 h1 ez
            go_wp2_with fail
            refine (ldexp_zero T _).mono ?_
            rintro r w10 ⟨rfl, rfl⟩
            go_wp2_with fail
            go_ret
            exact ⟨by rw [E.out]; rfl, HW.out⟩
          · have hl : (m.log2 : Int) + T ≤ 1023 := by
              by_cases c1 : m = 2 ^ 53
              · have : T ≠ 1023 - 53 + 1 := fun h => h1 ⟨c1, h⟩
                rw [c1, Nat.log2_two_pow]; have := HTT.out; omega
              · have h2 : m.log2 < 53 := (Nat.log2_lt hm0).2 (by have := HMB.out.1; omega)
                have := HTT.out; omega
            have E : Hid (V = fl m T) := Lib.hid (HV1.out.trans ((if_neg hm0).trans (if_neg (by omega))))
            have HM0 := Lib.hid hm0
            have HLT := Lib.hid hl
            clear hm0 h1 hl
            go_wp2_with fail
            refine (ldexp_fl m T _ HM0.out HMB.out.2 (by have := HTB.out; omega) (by have := HLT.out; omega)).mono ?_
            rintro r w10 ⟨rfl, rfl⟩
            go_wp2_with fail
            go_ret
            exact ⟨by rw [E.out]; rfl, HW.out⟩
set_option maxRecDepth 100000 in
set_option maxHeartbeats 4000000 in
theorem round_single (n d : Nat) (wy : Int) (N D : Option Addr) (w : World) (hw : wy = 0 ∨ wy = 1 ∨ wy = 2) (hx : Nat32 w N n) (hy : Nat32 w D d) (hn : n ≠ 0) (hd : d ≠ 0) (hbx : ln n ≤ 100000) (hby : ln d ≤ 100000) :
    Calls Tryz.prog 144 #[.agg #[.int .i64 24, .int .i64 (-149), .int .i64 127], .slice N (ln n) (ln n), .slice D (ln d) (ln d), .int .i64 wy] w (fun r w' => r = .returned (.float .f64 (prnd 24 (-149) 128 n d wy)) ∧ Below w.heap.size w w') := by
  have lx := ln_pos hn
  have t0 : ((ln n : Int) == 0) = false := by rw [beq_eq_false_iff_ne]; omega
  have la := log2_ln hn
  have ld := log2_ln hd
  have lg := lgq_near n d
  obtain ⟨k, hk⟩ : ∃ k : Int, k = (n.log2 : Int) - d.log2 := ⟨_, rfl⟩
  have na := nbits_log hn
  have nd := nbits_log hd
  have hkb : -3200000 ≤ k ∧ k ≤ 3200000 := by omega
  have HK : Hid ((nbits n : Int) - nbits d = k) := Lib.hid (by omega)
  obtain ⟨g, hg⟩ : ∃ g, g = lgq n d := ⟨_, rfl⟩
  have HG : Hid (g = if Bl n d k then k - 1 else k) := Lib.hid (by rw [hg, hk]; rfl)
  have hgb : -3300000 ≤ g ∧ g ≤ 3300000 := by omega
  obtain ⟨T, hT⟩ : ∃ T, T = lst 24 (-149) n d := ⟨_, rfl⟩
  have HTG : Hid (T = max (g - 24 + 1) (-149)) := Lib.hid (by rw [hT, hg]; unfold lst; omega)
  have hqb : qq n d T < 2 ^ 24 := by rw [hT]; exact lst_lt hn hd
  obtain ⟨inc, hinc⟩ : ∃ inc, inc = incW wy 24 (-149) n d := ⟨_, rfl⟩
  have HIN : Hid (inc = if wy = 0 then false else if wy = 1 then decide (rr n d T ≠ 0) else (decide (un2 d T < 2 * rr n d T) || (decide (un2 d T = 2 * rr n d T) && decide (qq n d T % 2 = 1)))) := Lib.hid (by rw [hinc, hT]; rfl)
  obtain ⟨V, hV⟩ : ∃ V, V = prnd 24 (-149) 128 n d wy := ⟨_, rfl⟩
  have HV1 : Hid (V = if wy = 0 ∧ 128 ≤ g then fl (2 ^ 24 - 1) (128 - (24 : Nat)) else if qq n d T + inc.toNat = 0 then 0 else if 128 ≤ ((qq n d T + inc.toNat).log2 : Int) + T then 9218868437227405312 else fl (qq n d T + inc.toNat) T) := Lib.hid (by rw [hV, hg, hinc, hT]; rfl)
  rw [← hV]
  have HB : Hid (nbits n ≤ 3200000 ∧ nbits d ≤ 3200000) := Lib.hid (by omega)
  have HN := Lib.hid hn
  have HD := Lib.hid hd
  have HX := Lib.hid hbx
  have HY := Lib.hid hby
  have HQB := Lib.hid hqb
  have HGQ := Lib.hid hg
  have HW3 := Lib.hid hw
  have k1 := hkb.1
  have k2 := hkb.2
  have g1 := hgb.1
  have g2 := hgb.2
  clear la ld lg hk na nd hkb hgb hg hT hqb hinc hV hn hd hbx hby lx hw
  go_enter Tryz.func144, Tryz.ntmps144
  go_wp2_with fail
  obtain ⟨W, hW⟩ : ∃ W : World, W = (w.alloc (.cells #[.int .i64 24, .int .i64 (-149), .int .i64 127] 126)) := ⟨_, rfl⟩
  have s0 : W.cell? ⟨w.heap.size, 0, none⟩ = some (.int .i64 24) := by subst hW; go_simp
  have s1 : W.cell? ⟨w.heap.size, 1, none⟩ = some (.int .i64 (-149)) := by subst hW; go_simp
  have s2 : W.cell? ⟨w.heap.size, 2, none⟩ = some (.int .i64 127) := by subst hW; go_simp
  have HW : Below w.heap.size w W := by subst hW; exact ((Below.refl w.heap.size w).alloc (Nat.le_refl _) _)
  have l0 : w.heap.size < W.heap.size := by subst hW; simp
  replace hx := hx.to HW
  replace hy := hy.to HW
  rw [← hW]
  clear hW
  replace HW := Lib.hid HW
  refine (len_any n N _ (by exact hx) (by have := HX.out; omega)).mono ?_
  rintro e w9 ⟨rfl, rfl⟩
  go_wp2_with fail
  refine (len_any d D _ (by exact hy) (by have := HY.out; omega)).mono ?_
  rintro e w9 ⟨rfl, rfl⟩
  have W0 : wrap64 ((nbits n : Int) - nbits d) = k := (wrap_si (by have := HB.out; omega) (by have := HB.out; omega)).trans HK.out
  go_wp2_with fail
  have HP1 : Hid (ln (n * 2 ^ (-k).toNat) ≤ 300000 ∧ ln (d * 2 ^ k.toNat) ≤ 300000 ∧ (-k).toNat ≤ 3200000 ∧ k.toNat ≤ 3200000) := Lib.hid (by
    have := ln_mul n (2 ^ (-k).toNat); have := ln_pow2 (-k).toNat; have := ln_mul d (2 ^ k.toNat); have := ln_pow2 k.toNat; have := HX.out; have := HY.out; omega)
  refine (shl_to n (-k).toNat N _ (by exact hx) (by have := HX.out; omega) (by have := HP1.out; omega) (by omega) rfl).mono ?_
  rintro e w1 ⟨B1, rfl, h1, hb1⟩
  replace s0 := keepc hb1 s0 l0
  replace s1 := keepc hb1 s1 l0
  replace s2 := keepc hb1 s2 l0
  replace l0 := Nat.lt_of_lt_of_le l0 hb1.size
  replace hx := hx.to hb1
  replace hy := hy.to hb1
  replace HW := Lib.hid (hstep HW hb1)
  clear hb1
  go_wp2_with fail
  refine (shl_to d k.toNat D _ (by exact hy) (by have := HY.out; omega) (by have := HP1.out; omega) (by omega) rfl).mono ?_
  rintro e w2 ⟨B2, rfl, h2, hb2⟩
  replace s0 := keepc hb2 s0 l0
  replace s1 := keepc hb2 s1 l0
  replace s2 := keepc hb2 s2 l0
  replace l0 := Nat.lt_of_lt_of_le l0 hb2.size
  replace hx := hx.to hb2
  replace hy := hy.to hb2
  replace h1 := h1.to hb2
  replace HW := Lib.hid (hstep HW hb2)
  clear hb2
  go_wp2_with fail
  obtain ⟨cv, hcv⟩ : ∃ cv, cmpN (n * 2 ^ (-k).toNat) (d * 2 ^ k.toNat) = cv := ⟨_, rfl⟩
  have HCV : Hid (cv < 0 ↔ Bl n d k) := Lib.hid (by rw [← hcv]; unfold cmpN Bl; split <;> (try split) <;> simp_all)
  refine (cmpn_to (n * 2 ^ (-k).toNat) (d * 2 ^ k.toNat) B1 B2 _ (by exact h1) (by exact h2) (by have := HP1.out; omega) hcv).mono ?_
  rintro e w3 ⟨rfl, hb3⟩
  replace s0 := keepc hb3 s0 l0
  replace s1 := keepc hb3 s1 l0
  replace s2 := keepc hb3 s2 l0
  replace l0 := Nat.lt_of_lt_of_le l0 hb3.size
  replace hx := hx.to hb3
  replace hy := hy.to hb3
  replace HW := Lib.hid (hstep HW hb3)
  clear hb3 h1 h2 hcv
  go_upto_if 36 with fail
  go_cut [9] (fun e wx => e = .int .i64 g ∧ wx = w3)
  case first =>
    by_cases hlt : Bl n d k
    · have t1 : cv < 0 := HCV.out.2 hlt
      have t2 : decide (cv < 0) = true := decide_eq_true t1
      have e3 : g = k - 1 := HG.out.trans (if_pos hlt)
      clear hlt
      go_wp2_with fail
      go_meet
      exact ⟨by rw [e3], rfl⟩
    · have t1 : ¬ cv < 0 := fun h => hlt (HCV.out.1 h)
      have t2 : decide (cv < 0) = false := decide_eq_false t1
      have e3 : g = k := HG.out.trans (if_neg hlt)
      clear hlt
      go_wp2_with fail
      go_meet
      exact ⟨by rw [e3], rfl⟩
  case rest =>
  obtain ⟨hc1, hc2⟩ := hcut
  subst hc1
  rw [hc2]
  clear hc2 wc W0
  by_cases htop : 127 < g
  · have t1 : decide ((127 : Int) < g) = true := decide_eq_true htop
    have HRN : Hid (wy ≠ 0 → V = 9218868437227405312) := Lib.hid (fun h0 => by
      rw [HV1.out, if_neg (fun h => h0 h.1)]
      have hT : T = g - 24 + 1 := by have := HTG.out; omega
      have hq : 2 ^ (24 - 1) ≤ qq n d T := by
        have := mt (qq_lt HN.out HD.out T (24 - 1)).1 (by rw [← HGQ.out, hT]; omega)
        omega
      have hq0 : qq n d T + inc.toNat ≠ 0 := by have : 0 < 2 ^ (24 - 1) := Nat.pow_pos (by omega); omega
      have hl : 24 - 1 ≤ (qq n d T + inc.toNat).log2 := (Nat.le_log2 hq0).2 (by omega)
      rw [if_neg hq0, if_pos (by omega)])
    have HR0 : Hid (wy = 0 → V = fl (2 ^ 24 - 1) (127 - 24 + 1)) := Lib.hid (fun h0 => by
      rw [HV1.out, if_pos ⟨h0, by omega⟩]; congr 1)
    clear htop
    by_cases hw0 : wy = 0
    · have E := Lib.hid (HR0.out hw0)
      have y1 : (wy == 0) = true := by rw [hw0]; rfl
      clear hw0
      have hcv := conv_fl 16777215
      have e0 : ((16777215 : Nat) : Int) = 16777215 := rfl
      rw [e0] at hcv
      clear e0
      have LE : ∀ w : World, Calls Tryz.prog 184 #[.float .f64 (fl 16777215 0), .int .i64 104] w (fun r w' => r = .returned (.float .f64 (fl 16777215 104)) ∧ w' = w) := fun w => ldexp_fl 16777215 104 w (by decide) (by decide) (by decide) (by decide)
      have E2 : Hid (V = fl 16777215 104) := Lib.hid (by rw [E.out]; rfl)
      clear E
      clear HR0 HRN HV1 HN HD HX HY HQB HGQ HIN HTG HG
      go_wp2_with fail
      go_region_held3 (fun w' => w'.cell? ⟨w.heap.size, 0, none⟩ = some (.int .i64 24) ∧ w'.cell? ⟨w.heap.size, 2, none⟩ = some (.int .i64 127)) (first | with_reducible exact ⟨s0, s2⟩ | with_reducible exact ⟨keepd s0, keepd s2⟩ | exact ⟨s0, s2⟩ | go_keep) (first
        | (go_at_call 184; refine (LE _).mono ?_; rintro r w10 ⟨rfl, rfl⟩))
      go_wp2_with fail
      go_ret
      exact ⟨by rw [E2.out]; rfl, by first | exact HW.out | exact ⟨HW.out.os, HW.out.tape, HW.out.output, HW.out.size, HW.out.block⟩⟩
    · have E := Lib.hid (HRN.out hw0)
      have y1 : (wy == 0) = false := beq_eq_false_iff_ne.2 hw0
      clear hw0
      go_wp2_with fail
      refine (inf_pos _).mono ?_
      rintro r w10 ⟨rfl, rfl⟩
      go_wp2_with fail
      go_ret
      exact ⟨by rw [E.out]; rfl, HW.out⟩
  · have t1 : decide ((127 : Int) < g) = false := decide_eq_false htop
    replace HV1 := Lib.hid (HV1.out.trans (if_neg (fun h => htop (by omega))))
    have HTOP := Lib.hid htop
    go_upto_region 10 with fail
    go_cut [10] (fun l wx => l = .int .i64 T ∧ wx = w3)
    case first =>
      go_wp2_with fail
      go_meet
      exact ⟨by rw [HTG.out], rfl⟩
    case rest =>
    obtain ⟨hc1, hc2⟩ := hcut
    subst hc1
    rw [hc2]
    clear hc2 wc t1
    have tb : Hid (-149 ≤ T ∧ T ≤ 127) := Lib.hid (by have := HTG.out; omega)
    have tb1 := tb.out.1
    have tb2 := tb.out.2
    have HU : Hid (ln (un2 d T) ≤ 300000 ∧ un2 d T ≠ 0 ∧ ln (n * 2 ^ (-T).toNat) ≤ 300000) := Lib.hid ⟨by unfold un2; have := ln_mul d (2 ^ T.toNat); have := ln_pow2 T.toNat; have := HY.out; omega, by have := un2_pos HD.out T; omega, by have := ln_mul n (2 ^ (-T).toNat); have := ln_pow2 (-T).toNat; have := HX.out; omega⟩
    go_wp2_with fail
    refine (shl_to d T.toNat D _ (by exact hy) (by have := HY.out; omega) (by omega) (by omega) (v := un2 d T) rfl).mono ?_
    rintro e w4 ⟨B3, rfl, h3, hb4⟩
    replace s0 := keepc hb4 s0 l0
    replace s2 := keepc hb4 s2 l0
    replace l0 := Nat.lt_of_lt_of_le l0 hb4.size
    replace hx := hx.to hb4
    replace HW := Lib.hid (hstep HW hb4)
    clear hb4 s1 hy
    go_wp2_with fail
    refine (shl_to n (-T).toNat N _ (by exact hx) (by have := HX.out; omega) (by omega) (by omega) rfl).mono ?_
    rintro e w5 ⟨B4, rfl, h4, hb5⟩
    replace s0 := keepc hb5 s0 l0
    replace s2 := keepc hb5 s2 l0
    replace l0 := Nat.lt_of_lt_of_le l0 hb5.size
    replace h3 := h3.to hb5
    replace HW := Lib.hid (hstep HW hb5)
    clear hb5 hx
    go_wp2_with fail
    refine (divn_to (n * 2 ^ (-T).toNat) (un2 d T) B4 B3 _ (by exact h4) (by exact h3) (by have := HU.out; omega) (by have := HU.out; omega) HU.out.2.1 (q := qq n d T) (r := rr n d T) rfl rfl).mono ?_
    rintro e w6 ⟨Q, R, rfl, hQ, hR, hb6⟩
    replace s0 := keepc hb6 s0 l0
    replace s2 := keepc hb6 s2 l0
    replace l0 := Nat.lt_of_lt_of_le l0 hb6.size
    replace h3 := h3.to hb6
    replace HW := Lib.hid (hstep HW hb6)
    clear hb6 h4
    obtain ⟨q0, hq0⟩ : ∃ q0, q0 = qq n d T := ⟨_, rfl⟩
    rw [← hq0] at hQ HQB HIN HV1 ⊢
    clear hq0
    have HQL : Hid (ln q0 ≤ 2 ∧ q0 < 9007199254740992) := Lib.hid (by
      have h1 := HQB.out
      have h2 : 2 ^ 24 ≤ 2 ^ 53 := Nat.pow_le_pow_right (by omega) (by omega)
      rw [show (2 : Nat) ^ 53 = 9007199254740992 by decide] at h2
      exact ⟨ln_le (by rw [show (4294967296 : Nat) ^ 2 = 18446744073709551616 by decide]; omega), by omega⟩)
    go_wp2_with fail
    go_loopg [14, 15, 16, 82] (ln q0) (fun gm m i v x wr => ∃ j : Nat, x = .int .i64 (j : Nat) ∧ Hid (j + gm = ln q0) ∧ m = .int .u64 ((q0 % 4294967296 ^ j : Nat) : Int) ∧ wr = w6)
    case atStart => exact ⟨0, rfl, Lib.hid (by omega), by rw [Nat.pow_zero, Nat.mod_one]; rfl, rfl⟩
    case round =>
      obtain ⟨j, rfl, hj, rfl, rfl⟩ := hrel
      by_cases hlt : j < ln q0
      · have hq1 : q0 ≠ 0 := fun e => by rw [e, ln_zero] at hlt; omega
        obtain ⟨b, rfl, hb, hc⟩ := hQ hq1
        have hcj := hc j hlt
        have wl := wd_lt q0 j
        have hj2 : j = 0 ∨ j = 1 := by have := HQL.out; omega
        clear hc
        have x1 : (j : Int) < (ln q0 : Int) := by omega
        rcases hj2 with rfl | rfl
        · have o0 : bits .or .u64 0 (wd q0 0 : Int) = (wd q0 0 : Int) := by
            have := bits_or_u64_nat 0 (wd q0 0) (by omega) (by omega); simpa using this
          have em : q0 % 4294967296 ^ 0 = 0 := by rw [Nat.pow_zero, Nat.mod_one]
          have en : Hid (q0 % 4294967296 ^ 1 = wd q0 0) := Lib.hid (by rw [Nat.pow_one, wd_0])
          rw [em]
          clear em hlt
          go_wp2_with fail
          go_roundg (gk - 1)
          case measure => have := hj.out; omega
          case rel => exact ⟨1, rfl, Lib.hid (by have := hj.out; omega), by rw [en.out], rfl⟩
        · obtain ⟨lo, hlo⟩ : ∃ lo, lo = q0 % 4294967296 := ⟨_, rfl⟩
          obtain ⟨hi, hhi⟩ : ∃ hi, hi = wd q0 1 := ⟨_, rfl⟩
          have h1 : hi = q0 / 4294967296 := by rw [hhi, wd, Nat.pow_one]; exact Nat.mod_eq_of_lt (by have := HQL.out; omega)
          have em : q0 % 4294967296 ^ 1 = lo := by rw [Nat.pow_one, hlo]
          have en : Hid (q0 % 4294967296 ^ 2 = hi * 4294967296 + lo) := Lib.hid (by rw [Nat.mod_eq_of_lt (by rw [show (4294967296 : Nat) ^ 2 = 18446744073709551616 by decide]; have := HQL.out; omega), h1, hlo]; omega)
          have o1 := join32r (v := hi) (d := lo) (by have := HQL.out; omega) (by omega)
          rw [em]
          rw [← hhi] at hcj wl
          obtain ⟨Y, hY⟩ : ∃ Y, Y = hi * 4294967296 + lo := ⟨_, rfl⟩
          rw [← hY] at o1 en
          have hib : hi < 2097152 := by have := HQL.out; omega
          clear em hlt hY hlo hhi h1
          go_wp2_with fail
          go_roundg (gk - 1)
          case measure => have := hj.out; omega
          case rel => exact ⟨2, rfl, Lib.hid (by have := hj.out; omega), by rw [en.out], rfl⟩
      · have ej : j = ln q0 := by have := hj.out; omega
        have em : q0 % 4294967296 ^ j = q0 := by rw [ej]; exact Nat.mod_eq_of_lt (lt_ln q0)
        have x1 : ¬ (j : Int) < (ln q0 : Int) := by omega
        rw [em]
        clear em hlt
        have HRL : Hid (ln (rr n d T) ≤ 300000) := Lib.hid (Nat.le_trans (ln_mono (Nat.le_of_lt (rr_lt HD.out T))) HU.out.1)
        go_wp2_with fail
        refine (shl_to (rr n d T) 1 R _ (by exact hR) (by have := HRL.out; omega) (by omega) (by rfl) (v := 2 * rr n d T) (by omega)).mono ?_
        rintro e w7 ⟨B5, rfl, h5, hb7⟩
        replace s0 := keepc hb7 s0 l0
        replace s2 := keepc hb7 s2 l0
        replace l0 := Nat.lt_of_lt_of_le l0 hb7.size
        replace h3 := h3.to hb7
        replace HW := Lib.hid (hstep HW hb7)
        clear hb7
        go_wp2_with fail
        obtain ⟨hf, hhf⟩ : ∃ hf, cmpN (2 * rr n d T) (un2 d T) = hf := ⟨_, rfl⟩
        have HHF : Hid ((un2 d T < 2 * rr n d T ↔ 0 < hf) ∧ (un2 d T = 2 * rr n d T ↔ hf = 0)) := Lib.hid (by rw [← hhf]; unfold cmpN; split <;> (try split) <;> omega)
        refine (cmpn_to (2 * rr n d T) (un2 d T) B5 B3 _ (by exact h5) (by exact h3) (Nat.le_trans (ln_mul 2 _) (by have := HRL.out; have : ln 2 ≤ 1 := ln_le (by decide); omega)) hhf).mono ?_
        rintro e w8 ⟨rfl, hb8⟩
        replace s0 := keepc hb8 s0 l0
        replace s2 := keepc hb8 s2 l0
        replace l0 := Nat.lt_of_lt_of_le l0 hb8.size
        replace HW := Lib.hid (hstep HW hb8)
        clear hb8 h5 h3 hhf hR hQ
        go_upto_region 20 with fail
        go_cut [122] (fun b wx => b = .bool inc ∧ wx = w8)
        case first =>
          rcases HW3.out with hw | hw | hw
          · have e : inc = false := by rw [HIN.out, if_pos hw]
            have y1 : (wy == 1) = false := by rw [hw]; rfl
            have y2 : (wy == 2) = false := by rw [hw]; rfl
            clear hw
            go_wp2_with fail
            go_meet
            exact ⟨by rw [e], rfl⟩
          · have e : inc = decide (rr n d T ≠ 0) := by rw [HIN.out, if_neg (by omega), if_pos hw]
            have y1 : (wy == 1) = true := by rw [hw]; rfl
            have y2 : (wy == 2) = false := by rw [hw]; rfl
            by_cases hr : rr n d T = 0
            · have e2 : inc = false := by rw [e, decide_eq_false (by simpa using hr)]
              have y3 : ¬ 0 < ln (rr n d T) := by rw [hr, ln_zero]; omega
              have y4 : ¬ (0 : Int) < (ln (rr n d T) : Int) := by omega
              clear hw hr e
              go_wp2_with fail
              go_meet
              exact ⟨by rw [e2], rfl⟩
            · have e2 : inc = true := by rw [e, decide_eq_true hr]
              have y3 : 0 < ln (rr n d T) := ln_pos hr
              have y4 : (0 : Int) < (ln (rr n d T) : Int) := by omega
              clear hw hr e
              go_wp2_with fail
              go_meet
              exact ⟨by rw [e2], rfl⟩
          · have e : inc = (decide (0 < hf) || (decide (hf = 0) && decide (q0 % 2 = 1))) := by
              rw [HIN.out, if_neg (by omega), if_neg (by omega)]
              simp only [HHF.out.1, HHF.out.2]
            have y1 : (wy == 1) = false := by rw [hw]; rfl
            have y2 : (wy == 2) = true := by rw [hw]; rfl
            by_cases h1 : 0 < hf
            · have e2 : inc = true := by rw [e, decide_eq_true h1]; rfl
              clear hw e
              go_wp2_with fail
              go_meet
              exact ⟨by rw [e2], rfl⟩
            · by_cases h2 : hf = 0
              · have e2 : inc = decide (q0 % 2 = 1) := by rw [e, decide_eq_false h1, decide_eq_true h2]; rfl
                have y3 : (hf == 0) = true := by rw [h2]; rfl
                have y4 : (((q0 % 2 : Nat) : Int) == 1) = decide (q0 % 2 = 1) := by rw [Bool.eq_iff_iff, beq_iff_eq, decide_eq_true_eq]; omega
                clear hw e h2
                go_wp2_with fail
                go_meet
                exact ⟨by rw [e2, ← y4]; rfl, rfl⟩
              · have e2 : inc = false := by rw [e, decide_eq_false h1, decide_eq_false h2]; rfl
                have y3 : (hf == 0) = false := beq_eq_false_iff_ne.2 h2
                clear hw e
                go_wp2_with fail
                go_meet
                exact ⟨by rw [e2], rfl⟩
        case rest =>
        obtain ⟨hc1, hc2⟩ := hcut
        subst hc1
        rw [hc2]
        clear hc2 wc HIN
        obtain ⟨m, hm⟩ : ∃ m, m = q0 + inc.toNat := ⟨_, rfl⟩
        rw [← hm] at HV1
        have HMB : Hid (m ≤ 2 ^ 24 ∧ m ≤ 9007199254740992) := Lib.hid (by
          have h1 := HQB.out
          have h2 := HQL.out
          have h3 : inc.toNat ≤ 1 := by cases inc <;> decide
          omega)
        have HM := Lib.hid hm
        clear hm
        have qb : (q0 : Int) < 9007199254740992 := by have := HQL.out; omega
        go_upto_if 122 with fail
        go_cut [14] (fun mm wx => mm = .int .u64 (m : Nat) ∧ wx = w8)
        case first =>
          cases inc with
          | true =>
            have e : m = q0 + 1 := HM.out
            go_wp2_with fail
            go_meet
            exact ⟨by rw [e]; rfl, rfl⟩
          | false =>
            have e : m = q0 := HM.out
            go_wp2_with fail
            go_meet
            exact ⟨by rw [e], rfl⟩
        case rest =>
        obtain ⟨hc1, hc2⟩ := hcut
        subst hc1
        rw [hc2]
        clear hc2 wc qb
        have HTT : Hid (T ≤ 127 - 24 + 1) := Lib.hid (by have := HTG.out; have := HTOP.out; omega)
        have HTB := Lib.hid (And.intro tb1 tb2)
        obtain ⟨c, hc⟩ : ∃ c, c = decide (m = 2 ^ 24 ∧ T = 127 - 24 + 1) := ⟨_, rfl⟩
        have HC := Lib.hid hc
        clear hc
        go_upto_region 22 with fail
        go_cut [139] (fun b wx => b = .bool c ∧ wx = w8)
        case first =>
          have p53 : (2 : Nat) ^ 24 = 16777216 := by decide
          by_cases c1 : m = 2 ^ 24
          · have x1 : ((m : Int) == 16777216) = true := by rw [beq_iff_eq]; omega
            have e1 : c = decide (T = 127 - 24 + 1) := by rw [HC.out]; simp [c1]
            have x2 : (T == 104) = decide (T = 127 - 24 + 1) := by rw [Bool.eq_iff_iff, beq_iff_eq, decide_eq_true_eq]; omega
            clear c1 p53
            go_wp2_with fail
            go_meet
            exact ⟨by rw [e1, ← x2]; rfl, rfl⟩
          · have x1 : ((m : Int) == 16777216) = false := by rw [beq_eq_false_iff_ne]; omega
            have e1 : c = false := by rw [HC.out]; simp [c1]
            clear c1 p53
            go_wp2_with fail
            go_meet
            exact ⟨by rw [e1], rfl⟩
        case rest =>
        obtain ⟨hc1, hc2⟩ := hcut
        subst hc1
        rw [hc2]
        clear hc2 wc
        cases c with
        | true =>
          have h1 := of_decide_eq_true HC.out.symm
          have E : Hid (V = 9218868437227405312) := Lib.hid (HV1.out.trans ((if_neg (by rw [h1.1]; decide)).trans (if_pos (by rw [h1.1, Nat.log2_two_pow]; omega))))
          clear h1
          go_wp2_with fail
          refine (inf_pos _).mono ?_
          rintro r w10 ⟨rfl, rfl⟩
          go_wp2_with fail
          go_ret
          exact ⟨by rw [E.out]; rfl, HW.out⟩
        | false =>
          have h1 := of_decide_eq_false HC.out.symm
          have hcv := conv_fl m
          by_cases hm0 : m = 0
          · have E : Hid (V = 0) := Lib.hid (HV1.out.trans (if_pos hm0))
            have ez : fl m 0 = 0 := by rw [hm0]; rfl
            rw [ez] at hcv
            clear hm0 h1 ez
            go_wp2_with fail
            refine (ldexp_zero T _).mono ?_
            rintro r w10 ⟨rfl, rfl⟩
            go_wp2_with fail
            go_ret
            exact ⟨by rw [E.out]; rfl, HW.out⟩
          · have hl : (m.log2 : Int) + T ≤ 127 := by
              by_cases c1 : m = 2 ^ 24
              · have : T ≠ 127 - 24 + 1 := fun h => h1 ⟨c1, h⟩
                rw [c1, Nat.log2_two_pow]; have := HTT.out; omega
              · have h2 : m.log2 < 24 := (Nat.log2_lt hm0).2 (by have := HMB.out.1; omega)
                have := HTT.out; omega
            have E : Hid (V = fl m T) := Lib.hid (HV1.out.trans ((if_neg hm0).trans (if_neg (by omega))))
            have HM0 := Lib.hid hm0
            have HLT := Lib.hid hl
            clear hm0 h1 hl
            go_wp2_with fail
            refine (ldexp_fl m T _ HM0.out HMB.out.2 (by have := HTB.out; omega) (by have := HLT.out; omega)).mono ?_
            rintro r w10 ⟨rfl, rfl⟩
            go_wp2_with fail
            go_ret
            exact ⟨by rw [E.out]; rfl, HW.out⟩
end Go.Proofs.YtgpmlhpgdalheaaGreat

namespace Go.Proofs.YtgpmlhpgdalheaaGreat
open Go.RowKit Pl Fl
set_option linter.unusedVariables false
set_option linter.unusedSimpArgs false

theorem fl_lt {m : Nat} {e : Int} (h0 : m ≠ 0) (hm : m ≤ 9007199254740992) (h1 : -1074 ≤ e) (h2 : e + m.log2 ≤ 1023) : fl m e < 9218868437227405312 := by
  by_cases h : -1074 ≤ e + m.log2 - 52
  · obtain ⟨f, hf, hfl⟩ := fl_form h0 (by omega)
    rw [hfl, fl_norm (by omega) (by omega) h (by omega)]
    omega
  · have h3 := nearest_shift Ieee.double false h0 (e + 1074).toNat (-1074)
    rw [show (-1074 : Int) + ((e + 1074).toNat : Int) = e by omega] at h3
    have h4 : m * 2 ^ (e + 1074).toNat ≠ 0 := Nat.mul_ne_zero h0 (by have : 0 < 2 ^ (e + 1074).toNat := Nat.pow_pos (by omega); omega)
    have h5 : m * 2 ^ (e + 1074).toNat < 4503599627370496 := by
      have h6 := log2_mul_pow h0 (e + 1074).toNat
      have h7 : (m * 2 ^ (e + 1074).toNat).log2 < 52 := by omega
      have := (Nat.log2_lt h4).1 h7
      rwa [show (2 : Nat) ^ 52 = 4503599627370496 by decide] at this
    have h6 := fl_low h4 h5
    unfold fl at h6 ⊢
    rw [← h3, h6]; omega
/-- No word up to that of +Inf is equal to 0, but 0. -/
theorem ord_ne0 {X : Nat} (h : X ≤ 9218868437227405312) (h0 : X ≠ 0) : (FloatKind.f64.format.order X 0 != some Ordering.eq) = true := by
  by_cases hi : X = 9218868437227405312
  · rw [hi]; kernel_rfl
  · have hz : (FloatKind.f64.format.order X 0 == some Ordering.eq) = false := by
      by_cases hl : X < 4503599627370496
      · exact order_zero (read_low hl) h0
      · have hr := read_norm (E := X / 4503599627370496) (f := X % 4503599627370496) (by omega) (by omega) (by omega)
        rw [show X / 4503599627370496 * 4503599627370496 + X % 4503599627370496 = X by omega] at hr
        exact order_zero hr (by omega)
    unfold bne; rw [hz]; rfl
theorem ord_00 : (FloatKind.f64.format.order 0 0 != some Ordering.eq) = false := by kernel_rfl
theorem rnd_le {size : Nat} {low top : Int} {n d : Nat} {inc : Bool} (hn : n ≠ 0) (hd : d ≠ 0) (hs : size ≤ 53) (hl : -1074 ≤ low) (ht : top ≤ 1024) : rnd size low top n d inc ≤ 9218868437227405312 := by
  unfold rnd
  have h1 : qq n d (lst size low n d) < 2 ^ size := lst_lt hn hd
  have h2 : 2 ^ size ≤ 2 ^ 53 := Nat.pow_le_pow_right (by omega) (by omega)
  rw [show (2 : Nat) ^ 53 = 9007199254740992 by decide] at h2
  have h3 : inc.toNat ≤ 1 := by cases inc <;> decide
  have h4 : low ≤ lst size low n d := by unfold lst; omega
  split
  · omega
  · split
    · omega
    · exact Nat.le_of_lt (fl_lt (by omega) (by omega) (by omega) (by omega))
theorem prnd_le {size : Nat} {low top : Int} {n d : Nat} {wy : Int} (hn : n ≠ 0) (hd : d ≠ 0) (hs0 : 1 ≤ size) (hs : size ≤ 53) (hl : -1074 ≤ low) (ht1 : -1021 ≤ top) (ht : top ≤ 1024) : prnd size low top n d wy ≤ 9218868437227405312 := by
  unfold prnd
  split
  · have h2 : 2 ^ size ≤ 2 ^ 53 := Nat.pow_le_pow_right (by omega) (by omega)
    rw [show (2 : Nat) ^ 53 = 9007199254740992 by decide] at h2
    have h3 : 2 ^ 1 ≤ 2 ^ size := Nat.pow_le_pow_right (by omega) (by omega)
    have h4 : (2 ^ size - 1).log2 < size := (Nat.log2_lt (by omega)).2 (by omega)
    exact Nat.le_of_lt (fl_lt (by omega) (by omega) (by omega) (by omega))
  · exact rnd_le hn hd hs hl ht

set_option maxHeartbeats 4000000 in
theorem round_nil (S L T wy : Int) (N D : Option Addr) (d : Nat) (w : World) :
    Calls Tryz.prog 144 #[.agg #[.int .i64 S, .int .i64 L, .int .i64 T], .slice N 0 0, .slice D (ln d) (ln d), .int .i64 wy] w (fun r w' => r = .returned (.float .f64 0) ∧ Below w.heap.size w w') := by
  go_enter Tryz.func144, Tryz.ntmps144
  go_wp2_with fail
  go_ret
  exact ⟨rfl, (Below.refl w.heap.size w).alloc (Nat.le_refl _) _⟩

set_option maxHeartbeats 4000000 in
theorem signed_pos (S L T wy : Int) (x : Int) (d V : Nat) (A D : Option Addr) (w : World) (t1 : sn x = false) (hx : Nat32 w A (ab x)) (hy : Nat32 w D d) (RR : ∀ w : World, Nat32 w A (ab x) → Nat32 w D d → Calls Tryz.prog 144 #[.agg #[.int .i64 S, .int .i64 L, .int .i64 T], .slice A (ln (ab x)) (ln (ab x)), .slice D (ln d) (ln d), .int .i64 wy] w (fun r w' => r = .returned (.float .f64 V) ∧ Below w.heap.size w w')) :
    Calls Tryz.prog 88 #[.agg #[.int .i64 S, .int .i64 L, .int .i64 T], .agg #[.bool (sn (x)), .slice A (ln (ab (x))) (ln (ab (x)))], .slice D (ln d) (ln d), .int .i64 wy] w (fun r w' => r = .returned (.float .f64 (sf (sn x) V)) ∧ Below w.heap.size w w') := by
  have RH := Lib.hid RR
  clear RR
  have ES : Hid (sn x = false) := Lib.hid t1
  go_enter Tryz.func88, Tryz.ntmps88
  go_wp2_with fail
  obtain ⟨W, hW⟩ : ∃ W : World, W = ((w.alloc (.cells #[.int .i64 S, .int .i64 L, .int .i64 T] 126)).alloc (.cells #[.bool false, .slice A (ln (ab x)) (ln (ab x))] 28)) := ⟨_, rfl⟩
  have s0_0 : W.cell? ⟨w.heap.size, 0, none⟩ = some (.int .i64 S) := by subst hW; go_simp
  have s0_1 : W.cell? ⟨w.heap.size, 1, none⟩ = some (.int .i64 L) := by subst hW; go_simp
  have s0_2 : W.cell? ⟨w.heap.size, 2, none⟩ = some (.int .i64 T) := by subst hW; go_simp
  have s1_0 : W.cell? ⟨w.heap.size + 1, 0, none⟩ = some (.bool false) := by subst hW; go_simp
  have s1_1 : W.cell? ⟨w.heap.size + 1, 1, none⟩ = some (.slice A (ln (ab x)) (ln (ab x))) := by subst hW; go_simp
  have HW : Below w.heap.size w W := by subst hW; exact (((Below.refl w.heap.size w).alloc (Nat.le_refl _) _).alloc (by simp) _)
  have l0 : w.heap.size < W.heap.size := by subst hW; simp <;> omega
  have l1 : w.heap.size + 1 < W.heap.size := by subst hW; simp
  replace hx := hx.to HW
  replace hy := hy.to HW
  rw [← hW]
  clear hW
  replace HW := Lib.hid HW
  refine (RH.out _ (by exact hx) (by exact hy)).mono ?_
  rintro e w1 ⟨rfl, hb1⟩
  replace HW := Lib.hid (hstep HW hb1)
  go_wp2_with fail
  go_ret
  exact ⟨by rw [ES.out, sf_false]; rfl, HW.out⟩

set_option maxHeartbeats 4000000 in
theorem signed_neg2 (S L T : Int) (x : Int) (d V : Nat) (A D : Option Addr) (w : World) (t1 : sn x = true) (hx : Nat32 w A (ab x)) (hy : Nat32 w D d) (hV : V ≤ 9218868437227405312) (RR : ∀ w : World, Nat32 w A (ab x) → Nat32 w D d → Calls Tryz.prog 144 #[.agg #[.int .i64 S, .int .i64 L, .int .i64 T], .slice A (ln (ab x)) (ln (ab x)), .slice D (ln d) (ln d), .int .i64 2] w (fun r w' => r = .returned (.float .f64 V) ∧ Below w.heap.size w w')) :
    Calls Tryz.prog 88 #[.agg #[.int .i64 S, .int .i64 L, .int .i64 T], .agg #[.bool (sn (x)), .slice A (ln (ab (x))) (ln (ab (x)))], .slice D (ln d) (ln d), .int .i64 2] w (fun r w' => r = .returned (.float .f64 (sf (sn x) V)) ∧ Below w.heap.size w w') := by
  have RH := Lib.hid RR
  clear RR
  have ES : Hid (sn x = true) := Lib.hid t1
  go_enter Tryz.func88, Tryz.ntmps88
  go_wp2_with fail
  obtain ⟨W, hW⟩ : ∃ W : World, W = ((w.alloc (.cells #[.int .i64 S, .int .i64 L, .int .i64 T] 126)).alloc (.cells #[.bool true, .slice A (ln (ab x)) (ln (ab x))] 28)) := ⟨_, rfl⟩
  have s0_0 : W.cell? ⟨w.heap.size, 0, none⟩ = some (.int .i64 S) := by subst hW; go_simp
  have s0_1 : W.cell? ⟨w.heap.size, 1, none⟩ = some (.int .i64 L) := by subst hW; go_simp
  have s0_2 : W.cell? ⟨w.heap.size, 2, none⟩ = some (.int .i64 T) := by subst hW; go_simp
  have s1_0 : W.cell? ⟨w.heap.size + 1, 0, none⟩ = some (.bool true) := by subst hW; go_simp
  have s1_1 : W.cell? ⟨w.heap.size + 1, 1, none⟩ = some (.slice A (ln (ab x)) (ln (ab x))) := by subst hW; go_simp
  have HW : Below w.heap.size w W := by subst hW; exact (((Below.refl w.heap.size w).alloc (Nat.le_refl _) _).alloc (by simp) _)
  have l0 : w.heap.size < W.heap.size := by subst hW; simp <;> omega
  have l1 : w.heap.size + 1 < W.heap.size := by subst hW; simp
  replace hx := hx.to HW
  replace hy := hy.to HW
  rw [← hW]
  clear hW
  replace HW := Lib.hid HW
  refine (RH.out _ (by exact hx) (by exact hy)).mono ?_
  rintro e w1 ⟨rfl, hb1⟩
  replace HW := Lib.hid (hstep HW hb1)
  by_cases h0 : V = 0
  · have o1 := ord_00
    rw [h0]
    go_wp2_with fail
    go_ret
    exact ⟨by rw [show sf (sn x) V = 0 from if_pos h0]; rfl, HW.out⟩
  · have o1 := ord_ne0 hV h0
    have E : Hid (sf (sn x) V = Op.negFloat .f64 V) := Lib.hid (by rw [ES.out, sf_true h0])
    have ng := negf_run V
    clear hV h0
    go_wp2_with fail
    go_ret
    exact ⟨by rw [E.out]; rfl, HW.out⟩

set_option maxHeartbeats 4000000 in
theorem signed_neg0 (S L T : Int) (x : Int) (d V : Nat) (A D : Option Addr) (w : World) (t1 : sn x = true) (hx : Nat32 w A (ab x)) (hy : Nat32 w D d) (hV : V ≤ 9218868437227405312) (RR : ∀ w : World, Nat32 w A (ab x) → Nat32 w D d → Calls Tryz.prog 144 #[.agg #[.int .i64 S, .int .i64 L, .int .i64 T], .slice A (ln (ab x)) (ln (ab x)), .slice D (ln d) (ln d), .int .i64 1] w (fun r w' => r = .returned (.float .f64 V) ∧ Below w.heap.size w w')) :
    Calls Tryz.prog 88 #[.agg #[.int .i64 S, .int .i64 L, .int .i64 T], .agg #[.bool (sn (x)), .slice A (ln (ab (x))) (ln (ab (x)))], .slice D (ln d) (ln d), .int .i64 0] w (fun r w' => r = .returned (.float .f64 (sf (sn x) V)) ∧ Below w.heap.size w w') := by
  have RH := Lib.hid RR
  clear RR
  have ES : Hid (sn x = true) := Lib.hid t1
  go_enter Tryz.func88, Tryz.ntmps88
  go_wp2_with fail
  obtain ⟨W, hW⟩ : ∃ W : World, W = ((w.alloc (.cells #[.int .i64 S, .int .i64 L, .int .i64 T] 126)).alloc (.cells #[.bool true, .slice A (ln (ab x)) (ln (ab x))] 28)) := ⟨_, rfl⟩
  have s0_0 : W.cell? ⟨w.heap.size, 0, none⟩ = some (.int .i64 S) := by subst hW; go_simp
  have s0_1 : W.cell? ⟨w.heap.size, 1, none⟩ = some (.int .i64 L) := by subst hW; go_simp
  have s0_2 : W.cell? ⟨w.heap.size, 2, none⟩ = some (.int .i64 T) := by subst hW; go_simp
  have s1_0 : W.cell? ⟨w.heap.size + 1, 0, none⟩ = some (.bool true) := by subst hW; go_simp
  have s1_1 : W.cell? ⟨w.heap.size + 1, 1, none⟩ = some (.slice A (ln (ab x)) (ln (ab x))) := by subst hW; go_simp
  have HW : Below w.heap.size w W := by subst hW; exact (((Below.refl w.heap.size w).alloc (Nat.le_refl _) _).alloc (by simp) _)
  have l0 : w.heap.size < W.heap.size := by subst hW; simp <;> omega
  have l1 : w.heap.size + 1 < W.heap.size := by subst hW; simp
  replace hx := hx.to HW
  replace hy := hy.to HW
  rw [← hW]
  clear hW
  replace HW := Lib.hid HW
  refine (RH.out _ (by exact hx) (by exact hy)).mono ?_
  rintro e w1 ⟨rfl, hb1⟩
  replace HW := Lib.hid (hstep HW hb1)
  by_cases h0 : V = 0
  · have o1 := ord_00
    rw [h0]
    go_wp2_with fail
    go_ret
    exact ⟨by rw [show sf (sn x) V = 0 from if_pos h0]; rfl, HW.out⟩
  · have o1 := ord_ne0 hV h0
    have E : Hid (sf (sn x) V = Op.negFloat .f64 V) := Lib.hid (by rw [ES.out, sf_true h0])
    have ng := negf_run V
    clear hV h0
    go_wp2_with fail
    go_ret
    exact ⟨by rw [E.out]; rfl, HW.out⟩

set_option maxHeartbeats 4000000 in
theorem signed_neg1 (S L T : Int) (x : Int) (d V : Nat) (A D : Option Addr) (w : World) (t1 : sn x = true) (hx : Nat32 w A (ab x)) (hy : Nat32 w D d) (hV : V ≤ 9218868437227405312) (RR : ∀ w : World, Nat32 w A (ab x) → Nat32 w D d → Calls Tryz.prog 144 #[.agg #[.int .i64 S, .int .i64 L, .int .i64 T], .slice A (ln (ab x)) (ln (ab x)), .slice D (ln d) (ln d), .int .i64 0] w (fun r w' => r = .returned (.float .f64 V) ∧ Below w.heap.size w w')) :
    Calls Tryz.prog 88 #[.agg #[.int .i64 S, .int .i64 L, .int .i64 T], .agg #[.bool (sn (x)), .slice A (ln (ab (x))) (ln (ab (x)))], .slice D (ln d) (ln d), .int .i64 1] w (fun r w' => r = .returned (.float .f64 (sf (sn x) V)) ∧ Below w.heap.size w w') := by
  have RH := Lib.hid RR
  clear RR
  have ES : Hid (sn x = true) := Lib.hid t1
  go_enter Tryz.func88, Tryz.ntmps88
  go_wp2_with fail
  obtain ⟨W, hW⟩ : ∃ W : World, W = ((w.alloc (.cells #[.int .i64 S, .int .i64 L, .int .i64 T] 126)).alloc (.cells #[.bool true, .slice A (ln (ab x)) (ln (ab x))] 28)) := ⟨_, rfl⟩
  have s0_0 : W.cell? ⟨w.heap.size, 0, none⟩ = some (.int .i64 S) := by subst hW; go_simp
  have s0_1 : W.cell? ⟨w.heap.size, 1, none⟩ = some (.int .i64 L) := by subst hW; go_simp
  have s0_2 : W.cell? ⟨w.heap.size, 2, none⟩ = some (.int .i64 T) := by subst hW; go_simp
  have s1_0 : W.cell? ⟨w.heap.size + 1, 0, none⟩ = some (.bool true) := by subst hW; go_simp
  have s1_1 : W.cell? ⟨w.heap.size + 1, 1, none⟩ = some (.slice A (ln (ab x)) (ln (ab x))) := by subst hW; go_simp
  have HW : Below w.heap.size w W := by subst hW; exact (((Below.refl w.heap.size w).alloc (Nat.le_refl _) _).alloc (by simp) _)
  have l0 : w.heap.size < W.heap.size := by subst hW; simp <;> omega
  have l1 : w.heap.size + 1 < W.heap.size := by subst hW; simp
  replace hx := hx.to HW
  replace hy := hy.to HW
  rw [← hW]
  clear hW
  replace HW := Lib.hid HW
  refine (RH.out _ (by exact hx) (by exact hy)).mono ?_
  rintro e w1 ⟨rfl, hb1⟩
  replace HW := Lib.hid (hstep HW hb1)
  by_cases h0 : V = 0
  · have o1 := ord_00
    rw [h0]
    go_wp2_with fail
    go_ret
    exact ⟨by rw [show sf (sn x) V = 0 from if_pos h0]; rfl, HW.out⟩
  · have o1 := ord_ne0 hV h0
    have E : Hid (sf (sn x) V = Op.negFloat .f64 V) := Lib.hid (by rw [ES.out, sf_true h0])
    have ng := negf_run V
    clear hV h0
    go_wp2_with fail
    go_ret
    exact ⟨by rw [E.out]; rfl, HW.out⟩

end Go.Proofs.YtgpmlhpgdalheaaGreat

namespace Go.Proofs.YtgpmlhpgdalheaaGreat
open Go.RowKit Pl Fl
set_option linter.unusedVariables false
set_option linter.unusedSimpArgs false

/-- The word of a/d rounded, with its sign; wy: 0 toward -Inf, 1 toward +Inf, 2 to nearest. -/
def Fl.srnd (size : Nat) (low top : Int) (a : Int) (d : Nat) (wy : Int) : Nat :=
  if a = 0 then 0 else sf (sn a) (prnd size low top (ab a) d (if sn a = true then (if wy = 2 then 2 else 1 - wy) else wy))
theorem signed_double (a : Int) (d : Nat) (wy : Int) (A D : Option Addr) (w : World) (hx : Nat32 w A (ab a)) (hy : Nat32 w D d) (hw : wy = 0 ∨ wy = 1 ∨ wy = 2) (hd : d ≠ 0) (hbx : ln (ab a) ≤ 100000) (hby : ln d ≤ 100000) :
    Calls Tryz.prog 88 #[.agg #[.int .i64 53, .int .i64 (-1074), .int .i64 1023], .agg #[.bool (sn a), .slice A (ln (ab a)) (ln (ab a))], .slice D (ln d) (ln d), .int .i64 wy] w (fun r w' => r = .returned (.float .f64 (srnd 53 (-1074) 1024 a d wy)) ∧ Below w.heap.size w w') := by
  by_cases h0 : a = 0
  · have e0 : srnd 53 (-1074) 1024 a d wy = sf (sn a) 0 := (if_pos h0).trans (if_pos rfl).symm
    rw [e0]
    refine signed_pos 53 (-1074) 1023 wy a d 0 A D w (by rw [h0]; rfl) hx hy (fun w1 h1 h2 => ?_)
    have el : ln (ab a) = 0 := by rw [h0]; exact ln_zero
    rw [el]
    exact round_nil _ _ _ _ _ _ _ _
  · have hn : ab a ≠ 0 := by unfold ab; omega
    cases hs : sn a with
    | false =>
      have e1 : srnd 53 (-1074) 1024 a d wy = sf (sn a) (prnd 53 (-1074) 1024 (ab a) d wy) := (if_neg h0).trans (by rw [hs]; rfl)
      rw [e1, ← hs]
      exact signed_pos 53 (-1074) 1023 wy a d _ A D w hs hx hy (fun w1 h1 h2 => round_double (ab a) d wy A D w1 hw h1 h2 hn hd hbx hby)
    | true =>
      have hb : ∀ k, prnd 53 (-1074) 1024 (ab a) d k ≤ 9218868437227405312 := fun k => prnd_le hn hd (by decide) (by decide) (by decide) (by decide) (by decide)
      rcases hw with rfl | rfl | rfl
      · have e1 : srnd 53 (-1074) 1024 a d 0 = sf (sn a) (prnd 53 (-1074) 1024 (ab a) d 1) := (if_neg h0).trans (by rw [hs]; rfl)
        rw [e1, ← hs]
        exact signed_neg0 53 (-1074) 1023 a d _ A D w hs hx hy (hb 1) (fun w1 h1 h2 => round_double (ab a) d 1 A D w1 (Or.inr (Or.inl rfl)) h1 h2 hn hd hbx hby)
      · have e1 : srnd 53 (-1074) 1024 a d 1 = sf (sn a) (prnd 53 (-1074) 1024 (ab a) d 0) := (if_neg h0).trans (by rw [hs]; rfl)
        rw [e1, ← hs]
        exact signed_neg1 53 (-1074) 1023 a d _ A D w hs hx hy (hb 0) (fun w1 h1 h2 => round_double (ab a) d 0 A D w1 (Or.inl rfl) h1 h2 hn hd hbx hby)
      · have e1 : srnd 53 (-1074) 1024 a d 2 = sf (sn a) (prnd 53 (-1074) 1024 (ab a) d 2) := (if_neg h0).trans (by rw [hs]; rfl)
        rw [e1, ← hs]
        exact signed_neg2 53 (-1074) 1023 a d _ A D w hs hx hy (hb 2) (fun w1 h1 h2 => round_double (ab a) d 2 A D w1 (Or.inr (Or.inr rfl)) h1 h2 hn hd hbx hby)

set_option maxHeartbeats 4000000 in
theorem double_fmt (w : World) :
    Calls Tryz.prog 87 #[] w (fun e w' => e = .returned (.agg #[.int .i64 53, .int .i64 (-1074), .int .i64 1023]) ∧ Below w.heap.size w w') := by
  go_enter Tryz.func87, Tryz.ntmps87
  go_wp2
  exact bodyPost_ret (v := .agg #[.int .i64 53, .int .i64 (-1074), .int .i64 1023]) (by simp [results, Tryz.results87, go_sem]) rfl ⟨rfl, (Below.refl _ _).alloc (Nat.le_refl _) _⟩

theorem signed_single (a : Int) (d : Nat) (wy : Int) (A D : Option Addr) (w : World) (hx : Nat32 w A (ab a)) (hy : Nat32 w D d) (hw : wy = 0 ∨ wy = 1 ∨ wy = 2) (hd : d ≠ 0) (hbx : ln (ab a) ≤ 100000) (hby : ln d ≤ 100000) :
    Calls Tryz.prog 88 #[.agg #[.int .i64 24, .int .i64 (-149), .int .i64 127], .agg #[.bool (sn a), .slice A (ln (ab a)) (ln (ab a))], .slice D (ln d) (ln d), .int .i64 wy] w (fun r w' => r = .returned (.float .f64 (srnd 24 (-149) 128 a d wy)) ∧ Below w.heap.size w w') := by
  by_cases h0 : a = 0
  · have e0 : srnd 24 (-149) 128 a d wy = sf (sn a) 0 := (if_pos h0).trans (if_pos rfl).symm
    rw [e0]
    refine signed_pos 24 (-149) 127 wy a d 0 A D w (by rw [h0]; rfl) hx hy (fun w1 h1 h2 => ?_)
    have el : ln (ab a) = 0 := by rw [h0]; exact ln_zero
    rw [el]
    exact round_nil _ _ _ _ _ _ _ _
  · have hn : ab a ≠ 0 := by unfold ab; omega
    cases hs : sn a with
    | false =>
      have e1 : srnd 24 (-149) 128 a d wy = sf (sn a) (prnd 24 (-149) 128 (ab a) d wy) := (if_neg h0).trans (by rw [hs]; rfl)
      rw [e1, ← hs]
      exact signed_pos 24 (-149) 127 wy a d _ A D w hs hx hy (fun w1 h1 h2 => round_single (ab a) d wy A D w1 hw h1 h2 hn hd hbx hby)
    | true =>
      have hb : ∀ k, prnd 24 (-149) 128 (ab a) d k ≤ 9218868437227405312 := fun k => prnd_le hn hd (by decide) (by decide) (by decide) (by decide) (by decide)
      rcases hw with rfl | rfl | rfl
      · have e1 : srnd 24 (-149) 128 a d 0 = sf (sn a) (prnd 24 (-149) 128 (ab a) d 1) := (if_neg h0).trans (by rw [hs]; rfl)
        rw [e1, ← hs]
        exact signed_neg0 24 (-149) 127 a d _ A D w hs hx hy (hb 1) (fun w1 h1 h2 => round_single (ab a) d 1 A D w1 (Or.inr (Or.inl rfl)) h1 h2 hn hd hbx hby)
      · have e1 : srnd 24 (-149) 128 a d 1 = sf (sn a) (prnd 24 (-149) 128 (ab a) d 0) := (if_neg h0).trans (by rw [hs]; rfl)
        rw [e1, ← hs]
        exact signed_neg1 24 (-149) 127 a d _ A D w hs hx hy (hb 0) (fun w1 h1 h2 => round_single (ab a) d 0 A D w1 (Or.inl rfl) h1 h2 hn hd hbx hby)
      · have e1 : srnd 24 (-149) 128 a d 2 = sf (sn a) (prnd 24 (-149) 128 (ab a) d 2) := (if_neg h0).trans (by rw [hs]; rfl)
        rw [e1, ← hs]
        exact signed_neg2 24 (-149) 127 a d _ A D w hs hx hy (hb 2) (fun w1 h1 h2 => round_single (ab a) d 2 A D w1 (Or.inr (Or.inr rfl)) h1 h2 hn hd hbx hby)

set_option maxHeartbeats 4000000 in
theorem single_fmt (w : World) :
    Calls Tryz.prog 91 #[] w (fun e w' => e = .returned (.agg #[.int .i64 24, .int .i64 (-149), .int .i64 127]) ∧ Below w.heap.size w w') := by
  go_enter Tryz.func91, Tryz.ntmps91
  go_wp2
  exact bodyPost_ret (v := .agg #[.int .i64 24, .int .i64 (-149), .int .i64 127]) (by simp [results, Tryz.results91, go_sem]) rfl ⟨rfl, (Below.refl _ _).alloc (Nat.le_refl _) _⟩

set_option maxHeartbeats 4000000 in
theorem below_any (x : Cx) (A1 A2 A3 : Option Addr) (w : World) (hx : Num3 w A1 A2 A3 x) (hsz : sz 100000 x) :
    Calls Tryz.prog 19 #[.agg #[.bool (sn (na x)), .slice A1 (ln (ab (na x))) (ln (ab (na x))), .bool (sn (nb x)), .slice A2 (ln (ab (nb x))) (ln (ab (nb x))), .slice A3 (ln (un x)) (ln (un x))]] w (fun e w' => e = .returned (.float .f64 (srnd 53 (-1074) 1024 (na x) (nd x) 0)) ∧ Below w.heap.size w w') := by
  have HSX := Lib.hid hsz
  clear hsz
  go_enter Tryz.func19, Tryz.ntmps19
  go_wp2_with fail
  obtain ⟨W, hW⟩ : ∃ W : World, W = (w.alloc (.cells #[.bool (sn (na x)), .slice A1 (ln (ab (na x))) (ln (ab (na x))), .bool (sn (nb x)), .slice A2 (ln (ab (nb x))) (ln (ab (nb x))), .slice A3 (ln (un x)) (ln (un x))] 30)) := ⟨_, rfl⟩
  have s0_0 : W.cell? ⟨w.heap.size, 0, none⟩ = some (.bool (sn (na x))) := by subst hW; go_simp
  have s0_1 : W.cell? ⟨w.heap.size, 1, none⟩ = some (.slice A1 (ln (ab (na x))) (ln (ab (na x)))) := by subst hW; go_simp
  have s0_2 : W.cell? ⟨w.heap.size, 2, none⟩ = some (.bool (sn (nb x))) := by subst hW; go_simp
  have s0_3 : W.cell? ⟨w.heap.size, 3, none⟩ = some (.slice A2 (ln (ab (nb x))) (ln (ab (nb x)))) := by subst hW; go_simp
  have s0_4 : W.cell? ⟨w.heap.size, 4, none⟩ = some (.slice A3 (ln (un x)) (ln (un x))) := by subst hW; go_simp
  have HW : Below w.heap.size w W := by subst hW; exact ((Below.refl w.heap.size w).alloc (Nat.le_refl _) _)
  have l0 : w.heap.size < W.heap.size := by subst hW; simp
  replace hx := hx.to HW
  rw [← hW]
  clear hW
  replace HW := Lib.hid HW
  go_region_held3 (fun w' => w'.cell? ⟨w.heap.size, 0, none⟩ = some (.bool (sn (na x))) ∧ w'.cell? ⟨w.heap.size, 1, none⟩ = some (.slice A1 (ln (ab (na x))) (ln (ab (na x)))) ∧ w'.cell? ⟨w.heap.size, 2, none⟩ = some (.bool (sn (nb x))) ∧ w'.cell? ⟨w.heap.size, 3, none⟩ = some (.slice A2 (ln (ab (nb x))) (ln (ab (nb x)))) ∧ w'.cell? ⟨w.heap.size, 4, none⟩ = some (.slice A3 (ln (un x)) (ln (un x)))) (first | with_reducible exact ⟨s0_0, s0_1, s0_2, s0_3, s0_4⟩ | with_reducible exact ⟨s0_0, s0_1, s0_2, s0_3, s0_4⟩ | exact ⟨s0_0, s0_1, s0_2, s0_3, s0_4⟩) (first
    | (have _ := m2; go_at_call 88; refine (signed_double (na x) (nd x) 0 A1 D _ (by exact hx.1) (by exact hD) (by omega) (nd_ne0 x) (by have := HSX.out; unfold sz at this; omega) (by have := HSX.out; unfold sz at this; omega)).mono ?_; rintro e w3 ⟨rfl, hb3⟩; replace s0_0 := keepc hb3 s0_0 l0; replace s0_1 := keepc hb3 s0_1 l0; replace s0_2 := keepc hb3 s0_2 l0; replace s0_3 := keepc hb3 s0_3 l0; replace s0_4 := keepc hb3 s0_4 l0; replace l0 := Nat.lt_of_lt_of_le l0 hb3.size; replace hx := hx.to hb3; replace hD := hD.to hb3; replace HW := Lib.hid (hstep HW hb3); clear hb3; have m3 : True := trivial)
    | (have _ := m1; go_at_call 89; refine (den_any x A1 A2 A3 _ (by exact hx)).mono ?_; rintro e w2 ⟨D, rfl, hD, hb2⟩; replace s0_0 := keepc hb2 s0_0 l0; replace s0_1 := keepc hb2 s0_1 l0; replace s0_2 := keepc hb2 s0_2 l0; replace s0_3 := keepc hb2 s0_3 l0; replace s0_4 := keepc hb2 s0_4 l0; replace l0 := Nat.lt_of_lt_of_le l0 hb2.size; replace hx := hx.to hb2; replace HW := Lib.hid (hstep HW hb2); clear hb2; have m2 : True := trivial)
    | (go_at_call 87; refine (double_fmt _).mono ?_; rintro e w1 ⟨rfl, hb1⟩; have hb1 := undrew hb1; replace s0_0 := keepc hb1 s0_0 l0; replace s0_1 := keepc hb1 s0_1 l0; replace s0_2 := keepc hb1 s0_2 l0; replace s0_3 := keepc hb1 s0_3 l0; replace s0_4 := keepc hb1 s0_4 l0; replace l0 := Nat.lt_of_lt_of_le l0 hb1.size; replace hx := hx.to hb1; replace HW := Lib.hid (hstep HW hb1); clear hb1; have m1 : True := trivial))
  go_wp2_with fail
  go_ret
  exact ⟨rfl, HW.out⟩

set_option maxHeartbeats 4000000 in
theorem above_any (x : Cx) (A1 A2 A3 : Option Addr) (w : World) (hx : Num3 w A1 A2 A3 x) (hsz : sz 100000 x) :
    Calls Tryz.prog 21 #[.agg #[.bool (sn (na x)), .slice A1 (ln (ab (na x))) (ln (ab (na x))), .bool (sn (nb x)), .slice A2 (ln (ab (nb x))) (ln (ab (nb x))), .slice A3 (ln (un x)) (ln (un x))]] w (fun e w' => e = .returned (.float .f64 (srnd 53 (-1074) 1024 (na x) (nd x) 1)) ∧ Below w.heap.size w w') := by
  have HSX := Lib.hid hsz
  clear hsz
  go_enter Tryz.func21, Tryz.ntmps21
  go_wp2_with fail
  obtain ⟨W, hW⟩ : ∃ W : World, W = (w.alloc (.cells #[.bool (sn (na x)), .slice A1 (ln (ab (na x))) (ln (ab (na x))), .bool (sn (nb x)), .slice A2 (ln (ab (nb x))) (ln (ab (nb x))), .slice A3 (ln (un x)) (ln (un x))] 30)) := ⟨_, rfl⟩
  have s0_0 : W.cell? ⟨w.heap.size, 0, none⟩ = some (.bool (sn (na x))) := by subst hW; go_simp
  have s0_1 : W.cell? ⟨w.heap.size, 1, none⟩ = some (.slice A1 (ln (ab (na x))) (ln (ab (na x)))) := by subst hW; go_simp
  have s0_2 : W.cell? ⟨w.heap.size, 2, none⟩ = some (.bool (sn (nb x))) := by subst hW; go_simp
  have s0_3 : W.cell? ⟨w.heap.size, 3, none⟩ = some (.slice A2 (ln (ab (nb x))) (ln (ab (nb x)))) := by subst hW; go_simp
  have s0_4 : W.cell? ⟨w.heap.size, 4, none⟩ = some (.slice A3 (ln (un x)) (ln (un x))) := by subst hW; go_simp
  have HW : Below w.heap.size w W := by subst hW; exact ((Below.refl w.heap.size w).alloc (Nat.le_refl _) _)
  have l0 : w.heap.size < W.heap.size := by subst hW; simp
  replace hx := hx.to HW
  rw [← hW]
  clear hW
  replace HW := Lib.hid HW
  go_region_held3 (fun w' => w'.cell? ⟨w.heap.size, 0, none⟩ = some (.bool (sn (na x))) ∧ w'.cell? ⟨w.heap.size, 1, none⟩ = some (.slice A1 (ln (ab (na x))) (ln (ab (na x)))) ∧ w'.cell? ⟨w.heap.size, 2, none⟩ = some (.bool (sn (nb x))) ∧ w'.cell? ⟨w.heap.size, 3, none⟩ = some (.slice A2 (ln (ab (nb x))) (ln (ab (nb x)))) ∧ w'.cell? ⟨w.heap.size, 4, none⟩ = some (.slice A3 (ln (un x)) (ln (un x)))) (first | with_reducible exact ⟨s0_0, s0_1, s0_2, s0_3, s0_4⟩ | with_reducible exact ⟨s0_0, s0_1, s0_2, s0_3, s0_4⟩ | exact ⟨s0_0, s0_1, s0_2, s0_3, s0_4⟩) (first
    | (have _ := m2; go_at_call 88; refine (signed_double (na x) (nd x) 1 A1 D _ (by exact hx.1) (by exact hD) (by omega) (nd_ne0 x) (by have := HSX.out; unfold sz at this; omega) (by have := HSX.out; unfold sz at this; omega)).mono ?_; rintro e w3 ⟨rfl, hb3⟩; replace s0_0 := keepc hb3 s0_0 l0; replace s0_1 := keepc hb3 s0_1 l0; replace s0_2 := keepc hb3 s0_2 l0; replace s0_3 := keepc hb3 s0_3 l0; replace s0_4 := keepc hb3 s0_4 l0; replace l0 := Nat.lt_of_lt_of_le l0 hb3.size; replace hx := hx.to hb3; replace hD := hD.to hb3; replace HW := Lib.hid (hstep HW hb3); clear hb3; have m3 : True := trivial)
    | (have _ := m1; go_at_call 89; refine (den_any x A1 A2 A3 _ (by exact hx)).mono ?_; rintro e w2 ⟨D, rfl, hD, hb2⟩; replace s0_0 := keepc hb2 s0_0 l0; replace s0_1 := keepc hb2 s0_1 l0; replace s0_2 := keepc hb2 s0_2 l0; replace s0_3 := keepc hb2 s0_3 l0; replace s0_4 := keepc hb2 s0_4 l0; replace l0 := Nat.lt_of_lt_of_le l0 hb2.size; replace hx := hx.to hb2; replace HW := Lib.hid (hstep HW hb2); clear hb2; have m2 : True := trivial)
    | (go_at_call 87; refine (double_fmt _).mono ?_; rintro e w1 ⟨rfl, hb1⟩; have hb1 := undrew hb1; replace s0_0 := keepc hb1 s0_0 l0; replace s0_1 := keepc hb1 s0_1 l0; replace s0_2 := keepc hb1 s0_2 l0; replace s0_3 := keepc hb1 s0_3 l0; replace s0_4 := keepc hb1 s0_4 l0; replace l0 := Nat.lt_of_lt_of_le l0 hb1.size; replace hx := hx.to hb1; replace HW := Lib.hid (hstep HW hb1); clear hb1; have m1 : True := trivial))
  go_wp2_with fail
  go_ret
  exact ⟨rfl, HW.out⟩

set_option maxHeartbeats 4000000 in
theorem near_any (x : Cx) (A1 A2 A3 : Option Addr) (w : World) (hx : Num3 w A1 A2 A3 x) (hsz : sz 100000 x) :
    Calls Tryz.prog 13 #[.agg #[.bool (sn (na x)), .slice A1 (ln (ab (na x))) (ln (ab (na x))), .bool (sn (nb x)), .slice A2 (ln (ab (nb x))) (ln (ab (nb x))), .slice A3 (ln (un x)) (ln (un x))]] w (fun e w' => e = .returned (.complex .f64 (srnd 53 (-1074) 1024 (na x) (nd x) 2) (srnd 53 (-1074) 1024 (nb x) (nd x) 2)) ∧ Below w.heap.size w w') := by
  have HSX := Lib.hid hsz
  clear hsz
  go_enter Tryz.func13, Tryz.ntmps13
  go_wp2_with fail
  obtain ⟨W, hW⟩ : ∃ W : World, W = (w.alloc (.cells #[.bool (sn (na x)), .slice A1 (ln (ab (na x))) (ln (ab (na x))), .bool (sn (nb x)), .slice A2 (ln (ab (nb x))) (ln (ab (nb x))), .slice A3 (ln (un x)) (ln (un x))] 30)) := ⟨_, rfl⟩
  have s0_0 : W.cell? ⟨w.heap.size, 0, none⟩ = some (.bool (sn (na x))) := by subst hW; go_simp
  have s0_1 : W.cell? ⟨w.heap.size, 1, none⟩ = some (.slice A1 (ln (ab (na x))) (ln (ab (na x)))) := by subst hW; go_simp
  have s0_2 : W.cell? ⟨w.heap.size, 2, none⟩ = some (.bool (sn (nb x))) := by subst hW; go_simp
  have s0_3 : W.cell? ⟨w.heap.size, 3, none⟩ = some (.slice A2 (ln (ab (nb x))) (ln (ab (nb x)))) := by subst hW; go_simp
  have s0_4 : W.cell? ⟨w.heap.size, 4, none⟩ = some (.slice A3 (ln (un x)) (ln (un x))) := by subst hW; go_simp
  have HW : Below w.heap.size w W := by subst hW; exact ((Below.refl w.heap.size w).alloc (Nat.le_refl _) _)
  have l0 : w.heap.size < W.heap.size := by subst hW; simp
  replace hx := hx.to HW
  rw [← hW]
  clear hW
  replace HW := Lib.hid HW
  go_region_held3 (fun w' => w'.cell? ⟨w.heap.size, 0, none⟩ = some (.bool (sn (na x))) ∧ w'.cell? ⟨w.heap.size, 1, none⟩ = some (.slice A1 (ln (ab (na x))) (ln (ab (na x)))) ∧ w'.cell? ⟨w.heap.size, 2, none⟩ = some (.bool (sn (nb x))) ∧ w'.cell? ⟨w.heap.size, 3, none⟩ = some (.slice A2 (ln (ab (nb x))) (ln (ab (nb x)))) ∧ w'.cell? ⟨w.heap.size, 4, none⟩ = some (.slice A3 (ln (un x)) (ln (un x)))) (first | with_reducible exact ⟨s0_0, s0_1, s0_2, s0_3, s0_4⟩ | with_reducible exact ⟨s0_0, s0_1, s0_2, s0_3, s0_4⟩ | exact ⟨s0_0, s0_1, s0_2, s0_3, s0_4⟩) (first
    | (have _ := m5; go_at_call 88; refine (signed_double (nb x) (nd x) 2 A2 D2 _ (by exact hx.2.1) (by exact hD2) (by omega) (nd_ne0 x) (by have := HSX.out; unfold sz at this; omega) (by have := HSX.out; unfold sz at this; omega)).mono ?_; rintro e w6 ⟨rfl, hb6⟩; replace s0_0 := keepc hb6 s0_0 l0; replace s0_1 := keepc hb6 s0_1 l0; replace s0_2 := keepc hb6 s0_2 l0; replace s0_3 := keepc hb6 s0_3 l0; replace s0_4 := keepc hb6 s0_4 l0; replace l0 := Nat.lt_of_lt_of_le l0 hb6.size; replace hx := hx.to hb6; replace hD := hD.to hb6; replace hD2 := hD2.to hb6; replace HW := Lib.hid (hstep HW hb6); clear hb6; have m6 : True := trivial)
    | (have _ := m4; go_at_call 89; refine (den_any x A1 A2 A3 _ (by exact hx)).mono ?_; rintro e w5 ⟨D2, rfl, hD2, hb5⟩; replace s0_0 := keepc hb5 s0_0 l0; replace s0_1 := keepc hb5 s0_1 l0; replace s0_2 := keepc hb5 s0_2 l0; replace s0_3 := keepc hb5 s0_3 l0; replace s0_4 := keepc hb5 s0_4 l0; replace l0 := Nat.lt_of_lt_of_le l0 hb5.size; replace hx := hx.to hb5; replace hD := hD.to hb5; replace HW := Lib.hid (hstep HW hb5); clear hb5; have m5 : True := trivial)
    | (have _ := m3; go_at_call 87; refine (double_fmt _).mono ?_; rintro e w4 ⟨rfl, hb4⟩; replace s0_0 := keepc hb4 s0_0 l0; replace s0_1 := keepc hb4 s0_1 l0; replace s0_2 := keepc hb4 s0_2 l0; replace s0_3 := keepc hb4 s0_3 l0; replace s0_4 := keepc hb4 s0_4 l0; replace l0 := Nat.lt_of_lt_of_le l0 hb4.size; replace hx := hx.to hb4; replace hD := hD.to hb4; replace HW := Lib.hid (hstep HW hb4); clear hb4; have m4 : True := trivial)
    | (have _ := m2; go_at_call 88; refine (signed_double (na x) (nd x) 2 A1 D _ (by exact hx.1) (by exact hD) (by omega) (nd_ne0 x) (by have := HSX.out; unfold sz at this; omega) (by have := HSX.out; unfold sz at this; omega)).mono ?_; rintro e w3 ⟨rfl, hb3⟩; replace s0_0 := keepc hb3 s0_0 l0; replace s0_1 := keepc hb3 s0_1 l0; replace s0_2 := keepc hb3 s0_2 l0; replace s0_3 := keepc hb3 s0_3 l0; replace s0_4 := keepc hb3 s0_4 l0; replace l0 := Nat.lt_of_lt_of_le l0 hb3.size; replace hx := hx.to hb3; replace hD := hD.to hb3; replace HW := Lib.hid (hstep HW hb3); clear hb3; have m3 : True := trivial)
    | (have _ := m1; go_at_call 89; refine (den_any x A1 A2 A3 _ (by exact hx)).mono ?_; rintro e w2 ⟨D, rfl, hD, hb2⟩; replace s0_0 := keepc hb2 s0_0 l0; replace s0_1 := keepc hb2 s0_1 l0; replace s0_2 := keepc hb2 s0_2 l0; replace s0_3 := keepc hb2 s0_3 l0; replace s0_4 := keepc hb2 s0_4 l0; replace l0 := Nat.lt_of_lt_of_le l0 hb2.size; replace hx := hx.to hb2; replace HW := Lib.hid (hstep HW hb2); clear hb2; have m2 : True := trivial)
    | (go_at_call 87; refine (double_fmt _).mono ?_; rintro e w1 ⟨rfl, hb1⟩; have hb1 := undrew hb1; replace s0_0 := keepc hb1 s0_0 l0; replace s0_1 := keepc hb1 s0_1 l0; replace s0_2 := keepc hb1 s0_2 l0; replace s0_3 := keepc hb1 s0_3 l0; replace s0_4 := keepc hb1 s0_4 l0; replace l0 := Nat.lt_of_lt_of_le l0 hb1.size; replace hx := hx.to hb1; replace HW := Lib.hid (hstep HW hb1); clear hb1; have m1 : True := trivial))
  go_wp2_with fail
  go_ret
  exact ⟨rfl, HW.out⟩

end Go.Proofs.YtgpmlhpgdalheaaGreat

namespace Go.Proofs.YtgpmlhpgdalheaaGreat
open Go.RowKit Pl Fl
open Ieee
set_option linter.unusedVariables false
set_option linter.unusedSimpArgs false
namespace Fl
theorem sg_least : Format.leastPlace Ieee.single = -149 := by rfl
theorem sg_binade : Ieee.single.binade = 8388608 := by rfl
theorem sg_inf : Ieee.single.infRung = 2139095040 := by rfl
theorem sg_frac : Ieee.single.fractionBits = 23 := by rfl
theorem log2_23 {m : Nat} (h1 : 8388608 ≤ m) (h2 : m < 16777216) : m.log2 = 23 := by
  have h0 : m ≠ 0 := by omega
  have a := (Nat.le_log2 h0).2 (show 2 ^ 23 ≤ m by rw [show (2 : Nat) ^ 23 = 8388608 by decide]; exact h1)
  have b := (Nat.log2_lt h0).2 (show m < 2 ^ 24 by rw [show (2 : Nat) ^ 24 = 16777216 by decide]; exact h2)
  omega
theorem sg_norm (neg : Bool) {m : Nat} {e : Int} (h1 : 8388608 ≤ m) (h2 : m < 16777216) (h3 : -149 ≤ e) (h4 : e ≤ 104) : Ieee.single.nearest neg m e = Ieee.single.word neg ((e + 149).toNat * 8388608 + m) := by
  have h0 : m ≠ 0 := by omega
  have hl := log2_23 h1 h2
  unfold Format.nearest
  rw [if_neg h0]
  have el : max (e + m.log2 - Ieee.single.fractionBits) Ieee.single.leastPlace = e := by
    rw [hl, sg_least, sg_frac]; omega
  simp only [el]
  rw [Int.sub_self, sg_least, sg_binade, sg_inf, Int.toNat_zero, cut_zero, Nat.shiftLeft_zero, show e - -149 = e + 149 by omega]
  congr 1
  obtain ⟨t, ht⟩ : ∃ t, t = (e + 149).toNat := ⟨_, rfl⟩
  have hb : t ≤ 253 := by omega
  rw [← ht]
  clear ht h3 h4 el
  exact Nat.min_eq_left (by omega)
theorem sg_low (neg : Bool) {m : Nat} (h0 : m ≠ 0) (h2 : m < 8388608) : Ieee.single.nearest neg m (-149) = Ieee.single.word neg m := by
  have hl : m.log2 < 23 := (Nat.log2_lt h0).2 (by rw [show (2 : Nat) ^ 23 = 8388608 by decide]; exact h2)
  unfold Format.nearest
  rw [if_neg h0]
  have el : max ((-149 : Int) + m.log2 - Ieee.single.fractionBits) Ieee.single.leastPlace = -149 := by
    rw [sg_least, sg_frac]; omega
  simp only [el]
  rw [sg_least, sg_binade, sg_inf]
  simp only [Int.sub_self, Int.toNat_zero, cut_zero, Nat.shiftLeft_zero, Nat.zero_mul, Nat.zero_add]
  congr 1
  exact Nat.min_eq_left (by omega)
/-- A number that float32 has, or that is below its least power of two that it has not, is written as a finite word. -/
theorem sg_fin (neg : Bool) {m : Nat} {e : Int} (h0 : m ≠ 0) (hm : m ≤ 16777216) (h1 : -149 ≤ e) (h2 : e + m.log2 ≤ 127) : ∃ r, r < 2139095040 ∧ Ieee.single.nearest neg m e = Ieee.single.word neg r := by
  by_cases hm2 : m = 16777216
  · have l : m.log2 = 24 := by rw [hm2]; decide
    have h := nearest_shift Ieee.single neg (m := 8388608) (by decide) 1 e
    have h3 := sg_norm neg (m := 8388608) (e := e + 1) (by decide) (by decide) (by omega) (by omega)
    rw [show (8388608 * 2 ^ 1 : Nat) = 16777216 by decide] at h
    rw [hm2]
    exact ⟨(e + 1 + 149).toNat * 8388608 + 8388608, by omega, h.trans h3⟩
  · have hl : m.log2 < 24 := (Nat.log2_lt h0).2 (by rw [show (2 : Nat) ^ 24 = 16777216 by decide]; omega)
    by_cases hc : -149 ≤ e + m.log2 - 23
    · have h := nearest_shift Ieee.single neg h0 (23 - m.log2) (e + m.log2 - 23)
      rw [show e + m.log2 - 23 + ((23 - m.log2 : Nat) : Int) = e by omega] at h
      have a := log2_mul_pow h0 (23 - m.log2)
      have hz : m * 2 ^ (23 - m.log2) ≠ 0 := Nat.mul_ne_zero h0 (by have : 0 < 2 ^ (23 - m.log2) := Nat.pow_pos (by omega); omega)
      have b1 := Nat.log2_self_le hz
      have b2 := (Nat.log2_lt hz).1 (show _ < 24 by omega)
      rw [a, show m.log2 + (23 - m.log2) = 23 by omega, show (2 : Nat) ^ 23 = 8388608 by decide] at b1
      rw [show (2 : Nat) ^ 24 = 16777216 by decide] at b2
      rw [sg_norm neg b1 b2 hc (by omega)] at h
      exact ⟨_, by omega, h.symm⟩
    · have h := nearest_shift Ieee.single neg h0 (e + 149).toNat (-149)
      rw [show (-149 : Int) + ((e + 149).toNat : Int) = e by omega] at h
      have a := log2_mul_pow h0 (e + 149).toNat
      have hz : m * 2 ^ (e + 149).toNat ≠ 0 := Nat.mul_ne_zero h0 (by have : 0 < 2 ^ (e + 149).toNat := Nat.pow_pos (by omega); omega)
      have b2 := (Nat.log2_lt hz).1 (show _ < 23 by omega)
      rw [show (2 : Nat) ^ 23 = 8388608 by decide] at b2
      rw [sg_low neg hz b2] at h
      exact ⟨_, by omega, h.symm⟩
theorem sg_sign : Ieee.single.signWeight = 2147483648 := by rfl
theorem sg_word (neg : Bool) (r : Nat) : Ieee.single.word neg r = (if neg = true then 2147483648 else 0) + r := by
  unfold Format.word
  rw [sg_sign]
  split <;> omega
theorem sg_read_fin (neg : Bool) {r : Nat} (h : r < 2139095040) : (Ieee.single.read (Ieee.single.word neg r)).isInfinity = false := by
  have hr : (Ieee.single.word neg r) % 2147483648 = r := by rw [sg_word]; split <;> omega
  unfold Format.read
  simp only [sg_sign, sg_binade, sg_inf, sg_least, hr]
  split
  · rfl
  · first | rfl | (rw [if_pos (by omega)]; rfl)
theorem dbl_read_neg {E f : Nat} (h1 : 1 ≤ E) (h2 : E ≤ 2046) (hf : f < 4503599627370496) : double.read (9223372036854775808 + (E * 4503599627370496 + f)) = .number true (4503599627370496 + f) ((E : Int) - 1075) := by
  have q : (9223372036854775808 + (E * 4503599627370496 + f)) / 9223372036854775808 = 1 := by omega
  have r : (9223372036854775808 + (E * 4503599627370496 + f)) % 9223372036854775808 = E * 4503599627370496 + f := by omega
  have a : (E * 4503599627370496 + f) / 4503599627370496 = E := by omega
  have b : (E * 4503599627370496 + f) % 4503599627370496 = f := by omega
  unfold Format.read
  simp only [dbl_sign, dbl_binade, dbl_inf, dbl_least, q, r]
  rw [if_neg (by omega), if_pos (by omega), a, b]
  congr 1
  omega
/-- Negation sets the sign bit. -/
theorem neg_word {X : Nat} (h : X < 9223372036854775808) : Op.negFloat .f64 X = 9223372036854775808 + X := by
  have e : Op.negFloat .f64 X = X ^^^ 2 ^ 63 := rfl
  have h2 : X < 2 ^ 63 := by rw [show (2 : Nat) ^ 63 = 9223372036854775808 by decide]; exact h
  rw [e, show 9223372036854775808 = 2 ^ 63 by decide]
  apply Nat.eq_of_testBit_eq
  intro i
  rw [Nat.testBit_xor, Nat.testBit_two_pow]
  rcases Nat.lt_trichotomy i 63 with hi | hi | hi
  · rw [Nat.testBit_two_pow_add_gt hi]
    simp [show ¬ 63 = i by omega]
  · subst hi
    rw [Nat.testBit_two_pow_add_eq, Nat.testBit_lt_two_pow h2]
    simp
  · have h3 : (2 ^ 63 + X).testBit i = false := Nat.testBit_lt_two_pow (Nat.lt_of_lt_of_le (show 2 ^ 63 + X < 2 ^ 64 by omega) (Nat.pow_le_pow_right (by omega) (by omega)))
    rw [h3, Nat.testBit_lt_two_pow (Nat.lt_of_lt_of_le h2 (Nat.pow_le_pow_right (by omega) (by omega)))]
    simp [show ¬ 63 = i by omega]
end Fl
end Go.Proofs.YtgpmlhpgdalheaaGreat
