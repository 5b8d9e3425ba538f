/- 'nat.div': quotient and remainder of two numbers in words. Conditions: at most 2^40 words each, the divisor is not 0. -/
import Derived.Test.YtgpmlhpgdalheaaGreatDiv
namespace Go.Proofs.YtgpmlhpgdalheaaGreat
open Go.RowKit Pl
set_option linter.unusedVariables false

set_option maxRecDepth 100000 in
set_option maxHeartbeats 1000000 in
/-- 'x.div(y)', y not 0. -/
theorem div_any (x y : Nat) (A B : Option Addr) (w : World) (hx : Nat32 w A x) (hy : Nat32 w B y) (hbx : ln x ≤ 1099511627776) (hby : ln y ≤ 1099511627776) (hy0 : y ≠ 0) :
    Calls Tryz.prog 159 #[.slice A (ln x) (ln x), .slice B (ln y) (ln y)] w (RetNat2 w (x / y) (x % y)) := by
  rcases Nat.lt_or_ge x y with hlt | hle
  · have hcmp : decide (cmpN x y < 0) = true := by rw [cmpN_lt hlt]; rfl
    have hq : x / y = 0 := Nat.div_eq_of_lt hlt
    have hr : x % y = x := Nat.mod_eq_of_lt hlt
    rw [hq, hr]
    clear hq hr
    go_enter Tryz.func159, Tryz.ntmps159
    go_wp2_with fail
    refine (cmp_any x y A B w hx hy (by omega)).mono ?_
    rintro e w1 ⟨rfl, hb1⟩
    have hx1 := hx.to hb1
    have HB := Lib.hid hb1
    clear hb1
    go_wp2_with fail
    go_ret2
    exact ⟨none, A, by rw [ln_zero]; rfl, Nat32.zero _ _, hx1, HB.out⟩
  · by_cases hl2 : 2 ≤ ln y
    · exact div_main x y A B w hx hy hbx hby hle hl2
    · have hl1 : ln y = 1 := by have := ln_pos hy0; omega
      have hcmp : decide (cmpN x y < 0) = false := by
        unfold cmpN; rw [if_neg (by omega)]; split <;> rfl
      have hyB : y < 4294967296 := by have := lt_ln y; rw [hl1] at this; simpa using this
      have hw0 : wd y 0 = y := by rw [wd_0, Nat.mod_eq_of_lt hyB]
      have t1 : ((ln y : Int) == 1) = true := by rw [hl1]; rfl
      have HW0 := Lib.hid hw0
      have hlp : 0 < ln y := by omega
      clear hw0 hl1
      go_enter Tryz.func159, Tryz.ntmps159
      go_wp2_with fail
      refine (cmp_any x y A B w hx hy (by omega)).mono ?_
      rintro e w1 ⟨rfl, hb1⟩
      obtain ⟨b, rfl, hb, hcy⟩ := (hy.to hb1) hy0
      have hyc := hcy 0 (by omega)
      have hx1 := hx.to hb1
      have HB := Lib.hid hb1
      rw [HW0.out] at hyc
      clear hb1 hcy hy hx
      go_wp2_with fail
      refine (short_any x y A w1 hx1 (by omega) (by omega) hyB).mono ?_
      rintro e w2 ⟨AQ, rfl, hQ, hb2⟩
      have hmb : x % y < 18446744073709551616 := Nat.lt_trans (Nat.mod_lt _ (by omega)) (by omega)
      have HM := Lib.hid hmb
      have HB2 := Lib.hid (HB.out.trans (hb2.mono HB.out.size))
      obtain ⟨r, hr⟩ : ∃ r, r = x % y := ⟨_, rfl⟩
      rw [← hr] at HM ⊢
      clear hmb hb2 hyc
      have hrb : r < 4294967296 := by rw [hr]; exact Nat.lt_trans (Nat.mod_lt _ (by omega)) hyB
      have HR := Lib.hid hr
      clear hr
      go_wp2_with fail
      refine (natOf_any r HM.out w2).mono ?_
      rintro e w3 ⟨AR, rfl, hR, hb3⟩
      go_wp2_with fail
      go_ret2
      rw [← HR.out]
      exact ⟨AQ, AR, rfl, hQ.to hb3, hR, HB2.out.trans (hb3.mono HB2.out.size)⟩

end Go.Proofs.YtgpmlhpgdalheaaGreat
