/- The reference's nearest at any fraction; its Near. The reference's toward: the plain laws; down. Floats as numbers: the parts of a word, its value; the nearest word of the value is the word. No program is in sight. The words below and above a fraction: both are its value, or they are neighbours with the fraction between them. No program is in sight. Reading any word of a float64; words stand to each other as their keys do. No program is in sight. The program's finite, split. The words below and above any number: what the law asks of them. No program is in sight. 'Nextafter' toward +Inf, 'IsInf' with a sign. The program's Complex. 'Num.Re'. -/
import Derived.Test.YtgpmlhpgdalheaaGreatJB
import Derived.Test.YtgpmlhpgdalheaaGreatJI
import Derived.Test.YtgpmlhpgdalheaaGreatNDiv
import Derived.Test.YtgpmlhpgdalheaaGreatLawA
namespace Go.Proofs.YtgpmlhpgdalheaaGreat
open Go.RowKit Pl Fl
set_option linter.unusedVariables false
set_option linter.unusedSimpArgs false

theorem incW_two (size : Nat) (low : Int) (n d : Nat) : incW 2 size low n d = incN size low n d := by
  unfold incW
  rw [if_neg (by decide), if_neg (by decide)]
theorem prnd_two (size : Nat) (low top : Int) (n d : Nat) : prnd size low top n d 2 = rnd size low top n d (incN size low n d) := by
  unfold prnd
  rw [if_neg (fun h => absurd h.1 (by decide)), incW_two]
theorem srnd_near {size : Nat} {low top : Int} {a : Int} {d : Nat} (h : a ≠ 0) : srnd size low top a d 2 = sf (sn a) (rnd size low top (ab a) d (incN size low (ab a) d)) := by
  unfold srnd
  rw [if_neg h]
  have e : (if sn a = true then (if (2 : Int) = 2 then 2 else 1 - 2) else (2 : Int)) = 2 := by split <;> rfl
  rw [e, prnd_two]
set_option maxHeartbeats 4000000 in
theorem rnearest_nil (a : Int) (d : Nat) (wd lo tp : Int) (A D : Option Addr) (cA cD : Nat) (w : World) (h0 : a = 0) :
    Calls Tryz.prog 90 #[.agg #[.bool (sn a), .slice A (ln (ab a)) cA], .slice D (ln d) cD, .int .i64 wd, .int .i64 lo, .int .i64 tp] w (fun r w' => r = .returned (.float .f64 0) ∧ Below w.heap.size w w') := by
  have t : ((ln (ab a) : Int) == 0) = true := by rw [h0, show ab 0 = 0 from rfl, ln_zero]; rfl
  clear h0
  go_enter Tryz.func90, Tryz.ntmps90
  go_wp2_with fail
  go_ret
  exact ⟨rfl, (Below.refl w.heap.size w).alloc (Nat.le_refl _) _⟩

theorem rnear_double (a : Int) (d : Nat) (A D : Option Addr) (cA cD : Nat) (w : World) (hx : Nat32 w A (ab a)) (hy : Nat32 w D d) (hd : d ≠ 0) (hbx : ln (ab a) ≤ 100000) (hby : ln d ≤ 100000) :
    Calls Tryz.prog 90 #[.agg #[.bool (sn a), .slice A (ln (ab a)) cA], .slice D (ln d) cD, .int .i64 53, .int .i64 (-1074), .int .i64 1024] w (fun r w' => r = .returned (.float .f64 (srnd 53 (-1074) 1024 a d 2)) ∧ Below w.heap.size w w') := by
  by_cases h0 : a = 0
  · have e0 : srnd 53 (-1074) 1024 a d 2 = 0 := if_pos h0
    rw [e0]
    exact rnearest_nil a d _ _ _ A D cA cD w h0
  · rw [srnd_near h0]
    exact rnearest_any a d 53 (-1074) 1024 A D cA cD w hx hy h0 hd hbx hby (by decide) (by decide) (by decide) (by decide) (by decide) (by decide)

theorem rnear_single (a : Int) (d : Nat) (A D : Option Addr) (cA cD : Nat) (w : World) (hx : Nat32 w A (ab a)) (hy : Nat32 w D d) (hd : d ≠ 0) (hbx : ln (ab a) ≤ 100000) (hby : ln d ≤ 100000) :
    Calls Tryz.prog 90 #[.agg #[.bool (sn a), .slice A (ln (ab a)) cA], .slice D (ln d) cD, .int .i64 24, .int .i64 (-149), .int .i64 128] w (fun r w' => r = .returned (.float .f64 (srnd 24 (-149) 128 a d 2)) ∧ Below w.heap.size w w') := by
  by_cases h0 : a = 0
  · have e0 : srnd 24 (-149) 128 a d 2 = 0 := if_pos h0
    rw [e0]
    exact rnearest_nil a d _ _ _ A D cA cD w h0
  · rw [srnd_near h0]
    exact rnearest_any a d 24 (-149) 128 A D cA cD w hx hy h0 hd hbx hby (by decide) (by decide) (by decide) (by decide) (by decide) (by decide)

set_option maxHeartbeats 4000000 in
theorem rnear_any (x : Cx) (A1 A2 A3 : Option Addr) (cA1 cA2 cA3 : Nat) (w : World) (hx : Num3C w A1 A2 A3 x) (hsx : sz 100000 x) :
    Calls Tryz.prog 14 #[.agg #[.bool (sn (na x)), .slice A1 (ln (ab (na x))) cA1, .bool (sn (nb x)), .slice A2 (ln (ab (nb x))) cA2, .slice A3 (ln (nd x)) cA3]] w (fun r w' => r = .returned (.complex .f64 (srnd 53 (-1074) 1024 (na x) (nd x) 2) (srnd 53 (-1074) 1024 (nb x) (nd x) 2)) ∧ Below w.heap.size w w') := by
  obtain ⟨hx1, hx2, hx3⟩ := hx
  have HSX := Lib.hid hsx
  clear hsx
  go_enter Tryz.func14, Tryz.ntmps14
  go_wp2_with fail
  obtain ⟨W, hW⟩ : ∃ W : World, W = (w.alloc (.cells #[.bool (sn (na x)), .slice A1 (ln (ab (na x))) cA1, .bool (sn (nb x)), .slice A2 (ln (ab (nb x))) cA2, .slice A3 (ln (nd x)) cA3] 34)) := ⟨_, rfl⟩
  have s0_0 : W.cell? ⟨w.heap.size, 0, none⟩ = some (.bool (sn (na x))) := by subst hW; go_simp
  have s0_1 : W.cell? ⟨w.heap.size, 1, none⟩ = some (.slice A1 (ln (ab (na x))) cA1) := by subst hW; go_simp
  have s0_2 : W.cell? ⟨w.heap.size, 2, none⟩ = some (.bool (sn (nb x))) := by subst hW; go_simp
  have s0_3 : W.cell? ⟨w.heap.size, 3, none⟩ = some (.slice A2 (ln (ab (nb x))) cA2) := by subst hW; go_simp
  have s0_4 : W.cell? ⟨w.heap.size, 4, none⟩ = some (.slice A3 (ln (nd x)) cA3) := by subst hW; go_simp
  have HW : Below w.heap.size w W := by subst hW; exact ((Below.refl w.heap.size w).alloc (Nat.le_refl _) _)
  have l0 : w.heap.size < W.heap.size := by subst hW; simp
  replace hx1 := hx1.to HW
  replace hx2 := hx2.to HW
  replace hx3 := hx3.to HW
  rw [← hW]
  clear hW
  replace HW := Lib.hid HW
  go_region_held3 (fun w' => w'.cell? ⟨w.heap.size, 0, none⟩ = some (.bool (sn (na x))) ∧ w'.cell? ⟨w.heap.size, 1, none⟩ = some (.slice A1 (ln (ab (na x))) cA1) ∧ w'.cell? ⟨w.heap.size, 2, none⟩ = some (.bool (sn (nb x))) ∧ w'.cell? ⟨w.heap.size, 3, none⟩ = some (.slice A2 (ln (ab (nb x))) cA2) ∧ w'.cell? ⟨w.heap.size, 4, none⟩ = some (.slice A3 (ln (nd x)) cA3)) (first | with_reducible exact ⟨s0_0, s0_1, s0_2, s0_3, s0_4⟩ | with_reducible exact ⟨s0_0, s0_1, s0_2, s0_3, s0_4⟩ | exact ⟨s0_0, s0_1, s0_2, s0_3, s0_4⟩) (first
    | (have _ := m1; go_at_call 90; refine (rnear_double (nb x) (nd x) A2 A3 cA2 cA3 _ (by exact hx2) (by exact hx3) (nd_ne0 x) (by have := HSX.out; unfold sz at this; omega) (by have := HSX.out; unfold sz at this; omega)).mono ?_; rintro e w2 ⟨rfl, hb2⟩; replace s0_0 := keepc hb2 s0_0 l0; replace s0_1 := keepc hb2 s0_1 l0; replace s0_2 := keepc hb2 s0_2 l0; replace s0_3 := keepc hb2 s0_3 l0; replace s0_4 := keepc hb2 s0_4 l0; replace l0 := Nat.lt_of_lt_of_le l0 hb2.size; replace hx1 := hx1.to hb2; replace hx2 := hx2.to hb2; replace hx3 := hx3.to hb2; replace HW := Lib.hid (hstep HW hb2); clear hb2; have m2 : True := trivial)
    | (go_at_call 90; refine (rnear_double (na x) (nd x) A1 A3 cA1 cA3 _ (by exact hx1) (by exact hx3) (nd_ne0 x) (by have := HSX.out; unfold sz at this; omega) (by have := HSX.out; unfold sz at this; omega)).mono ?_; rintro e w1 ⟨rfl, hb1⟩; have hb1 := undrew hb1; replace s0_0 := keepc hb1 s0_0 l0; replace s0_1 := keepc hb1 s0_1 l0; replace s0_2 := keepc hb1 s0_2 l0; replace s0_3 := keepc hb1 s0_3 l0; replace s0_4 := keepc hb1 s0_4 l0; replace l0 := Nat.lt_of_lt_of_le l0 hb1.size; replace hx1 := hx1.to hb1; replace hx2 := hx2.to hb1; replace hx3 := hx3.to hb1; replace HW := Lib.hid (hstep HW hb1); clear hb1; have m1 : True := trivial))
  go_wp2_with fail
  go_ret
  exact ⟨rfl, HW.out⟩

end Go.Proofs.YtgpmlhpgdalheaaGreat

namespace Go.Proofs.YtgpmlhpgdalheaaGreat
open Go.RowKit Pl Fl
set_option linter.unusedVariables false
set_option linter.unusedSimpArgs false
namespace Fl
theorem lgq_of {n d : Nat} {T : Int} (hn : n ≠ 0) (hd : d ≠ 0) (hq : qq n d T ≠ 0) : lgq n d = (qq n d T).log2 + T := by
  have h1 := (qq_lt hn hd T ((qq n d T).log2 + 1)).1 ((Nat.log2_lt hq).1 (by omega))
  have h2 := mt (qq_lt hn hd T (qq n d T).log2).2 (Nat.not_lt.2 (Nat.log2_self_le hq))
  omega
theorem lst_zero {n d : Nat} {size : Nat} {low : Int} (hn : n ≠ 0) (hd : d ≠ 0) (hs : 1 ≤ size) (hq : qq n d (lst size low n d) = 0) : lst size low n d = low ∧ lgq n d < low := by
  have h := (qq_lt hn hd (lst size low n d) 0).1 (by rw [hq]; decide)
  unfold lst at h ⊢
  omega
theorem max_fl : fl (2 ^ 53 - 1) (1024 - (53 : Nat)) = 9218868437227405311 := by
  rw [show (2 : Nat) ^ 53 - 1 = 9007199254740991 by decide, show (1024 - ((53 : Nat) : Int)) = 971 by decide]
  rw [fl_norm (by decide) (by decide) (by decide) (by decide)]
  rfl
/-- Down. -/
theorem tow_down {n d : Nat} (hn : n ≠ 0) (hd : d ≠ 0) : prnd 53 (-1074) 1024 n d 0 = if qq n d (lst 53 (-1074) n d) = 0 then 0 else if 1024 < ((qq n d (lst 53 (-1074) n d)).log2 : Int) + 1 + lst 53 (-1074) n d then 9218868437227405311 else fl (qq n d (lst 53 (-1074) n d)) (lst 53 (-1074) n d) := by
  unfold prnd
  by_cases h0 : qq n d (lst 53 (-1074) n d) = 0
  · have h1 := lst_zero hn hd (by decide) h0
    rw [if_neg (fun h => by have := h.2; omega), if_pos h0]
    unfold rnd
    rw [show incW 0 53 (-1074) n d = false from if_pos rfl]
    exact if_pos (by rw [h0]; rfl)
  · have h1 := lgq_of hn hd h0
    rw [if_neg h0]
    by_cases h2 : 1024 ≤ lgq n d
    · rw [if_pos ⟨rfl, h2⟩, if_pos (by omega), max_fl]
    · rw [if_neg (fun h => h2 h.2), if_neg (by omega)]
      unfold rnd
      rw [show incW 0 53 (-1074) n d = false from if_pos rfl]
      rw [show qq n d (lst 53 (-1074) n d) + false.toNat = qq n d (lst 53 (-1074) n d) from rfl]
      rw [if_neg h0, if_neg (by omega)]
theorem incW_one {n d : Nat} (hd : d ≠ 0) (size : Nat) (low : Int) : incW 1 size low n d = (decide (qq n d (lst size low n d - 1) % 2 = 1) || decide (rr n d (lst size low n d - 1) ≠ 0)) := by
  unfold incW
  rw [if_neg (by decide), if_pos rfl]
  generalize lst size low n d = T
  have h := (step_up (n := n) hd (T - 1)).2
  have hu := un2_pos hd T
  rw [show T - 1 + 1 = T by omega] at h
  rw [Bool.eq_iff_iff]
  simp only [Bool.or_eq_true, decide_eq_true_eq]
  rcases h with ⟨h1, h2, h3⟩ | ⟨h1, h2, h3⟩ <;> omega
end Fl
theorem rfloat_nil (e : Int) (A : Option Addr) (c : Nat) (w : World) : Calls Tryz.prog 150 #[.slice A 0 c, .int .i64 e] w fun r w' => r = .returned (.float .f64 0) ∧ w' = w := by
  go_enter Tryz.func150, Tryz.ntmps150
  go_wp2_with fail
  go_ret
  exact ⟨rfl, rfl⟩
theorem rtoward_nil (d : Nat) (b : Bool) (A D : Option Addr) (cA cD : Nat) (w : World) : Calls Tryz.prog 93 #[.slice A 0 cA, .slice D (ln d) cD, .bool b] w fun r w' => r = .returned (.float .f64 0) ∧ w' = w := by
  go_enter Tryz.func93, Tryz.ntmps93
  go_wp2_with fail
  go_ret
  exact ⟨rfl, rfl⟩
set_option maxRecDepth 100000 in
set_option maxHeartbeats 4000000 in
theorem rtoward_down (a d : Nat) (A D : Option Addr) (cA cD : Nat) (w : World) (hx : Nat32 w A a) (hy : Nat32 w D d) (ha : a ≠ 0) (hd : d ≠ 0) (hbx : ln a ≤ 100000) (hby : ln d ≤ 100000) :
    Calls Tryz.prog 93 #[.slice A (ln a) cA, .slice D (ln d) cD, .bool false] w fun r w' => r = .returned (.float .f64 (prnd 53 (-1074) 1024 a d 0)) ∧ Below w.heap.size w w' := by
  have lx := ln_pos ha
  have t0 : ((ln a : Int) == 0) = false := by rw [beq_eq_false_iff_ne]; omega
  obtain ⟨T, hT⟩ : ∃ T, T = lst 53 (-1074) a d := ⟨_, rfl⟩
  have hTl : -1074 ≤ T := by rw [hT]; unfold lst; omega
  have hTu : T ≤ 3300000 := by have := log2_ln ha; have := log2_ln hd; have := lgq_near a d; rw [hT]; unfold lst; omega
  have hqb : qq a d T < 2 ^ 53 := by rw [hT]; exact lst_lt ha hd
  have hz : qq a d T = 0 → T = -1074 := fun h => by rw [hT] at h ⊢; exact (lst_zero ha hd (by decide) h).1
  have HV := Lib.hid (tow_down ha hd)
  rw [← hT] at HV
  have HSP := Lib.hid (rsplit_any a d 53 (-1074) A D cA cD)
  rw [← hT] at HSP
  obtain ⟨V, hV⟩ : ∃ V, V = prnd 53 (-1074) 1024 a d 0 := ⟨_, rfl⟩
  rw [← hV] at HV ⊢
  have HA := Lib.hid ha
  have HD := Lib.hid hd
  have HB := Lib.hid (And.intro hbx hby)
  have HQB := Lib.hid hqb
  have HZ := Lib.hid hz
  clear lx hT hqb hz hV ha hd hbx hby
  go_enter Tryz.func93, Tryz.ntmps93
  go_wp2_with fail
  refine (HSP.out _ (by exact hx) (by exact hy) HA.out HD.out HB.out.1 HB.out.2 (by decide) (by decide) (by decide)).mono ?_
  rintro r w1 ⟨Q, cQ, rfl, hQ, hb1⟩
  have HW := Lib.hid hb1
  clear hb1 hx hy
  obtain ⟨lb, hlb⟩ : ∃ lb, lb = qq a d (T - 1) % 2 := ⟨_, rfl⟩
  obtain ⟨b0, hb0⟩ : ∃ b0, b0 = decide (rr a d (T - 1) ≠ 0) := ⟨_, rfl⟩
  obtain ⟨q0, hq0⟩ : ∃ q0, q0 = qq a d T := ⟨_, rfl⟩
  rw [← hlb, ← hb0, ← hq0]
  rw [← hq0] at hQ HV HQB HZ
  clear hlb hb0 hq0
  have HQL : Hid (ln q0 ≤ 2 ∧ q0 < 9007199254740992) := Lib.hid (by
    have h1 := HQB.out
    rw [show (2 : Nat) ^ 53 = 9007199254740992 by decide] at h1
    exact ⟨ln_le (by rw [show (4294967296 : Nat) ^ 2 = 18446744073709551616 by decide]; omega), h1⟩)
  go_wp2_with fail
  refine (rbits_any q0 cQ Q _ (by exact hQ) (by have := HQL.out; omega)).mono ?_
  rintro r w7 ⟨rfl, rfl⟩
  by_cases h0 : q0 = 0
  · have e1 : T = -1074 := HZ.out h0
    have E : Hid (V = 0) := Lib.hid (HV.out.trans (if_pos h0))
    have e2 : ln q0 = 0 := by rw [h0]; exact ln_zero
    have e3 : nbits q0 = 0 := by rw [h0]; rfl
    rw [e3, e2]
    subst e1
    clear h0 e3
    go_wp2_with fail
    refine (rfloat_nil _ _ _ _).mono ?_
    rintro r w8 ⟨rfl, rfl⟩
    go_wp2_with fail
    go_ret
    exact ⟨by rw [E.out]; rfl, HW.out⟩
  · have nb := nbits_log h0
    have HV2 := Lib.hid (HV.out.trans (if_neg h0))
    have lq : q0.log2 < 53 := (Nat.log2_lt h0).2 HQB.out
    have tb3 : (nbits q0 : Int) ≤ 64 := by omega
    by_cases htop : 1024 < (q0.log2 : Int) + 1 + T
    · have E : Hid (V = 9218868437227405311) := Lib.hid (HV2.out.trans (if_pos htop))
      have t2 : (1024 : Int) < (nbits q0 : Int) + T := by omega
      have t3 : decide ((1024 : Int) < (nbits q0 : Int) + T) = true := decide_eq_true t2
      clear htop nb lq h0
      go_wp2_with fail
      go_ret
      exact ⟨by rw [E.out]; rfl, HW.out⟩
    · have E : Hid (V = fl q0 T) := Lib.hid (HV2.out.trans (if_neg htop))
      have t2 : ¬ (1024 : Int) < (nbits q0 : Int) + T := by omega
      have t3 : decide ((1024 : Int) < (nbits q0 : Int) + T) = false := decide_eq_false t2
      have HH := Lib.hid (And.intro h0 (And.intro hTl (show T + q0.log2 ≤ 1023 by omega)))
      clear htop nb lq h0
      go_wp2_with fail
      refine (rfloat_pos q0 T Q cQ _ (by exact hQ) HH.out.1 HQL.out.2 HH.out.2.1 HH.out.2.2).mono ?_
      rintro r w8 ⟨rfl, rfl⟩
      go_wp2_with fail
      go_ret
      exact ⟨by rw [E.out]; rfl, HW.out⟩
end Go.Proofs.YtgpmlhpgdalheaaGreat

namespace Go.Proofs.YtgpmlhpgdalheaaGreat
open Go.RowKit Pl Fl
set_option linter.unusedVariables false
set_option linter.unusedSimpArgs false
namespace Fl
open Ieee
/-- The fields of a word, its integer and its exponent. -/
def xE (X : Nat) : Nat := X / 4503599627370496 % 2048
def xF (X : Nat) : Nat := X % 4503599627370496
def xS (X : Nat) : Bool := decide (9223372036854775808 ≤ X)
def xM (X : Nat) : Nat := if xE X = 0 then xF X else 4503599627370496 + xF X
def xP (X : Nat) : Int := (if xE X = 0 then 1 else (xE X : Int)) - 1075
/-- The value of a word. -/
def xV (X : Nat) : Rat := ((zi (xS X) (xM X * 2 ^ (xP X).toNat) : Int) : Rat) / ((2 ^ (-(xP X)).toNat : Nat) : Rat)
theorem xE_lt (X : Nat) : xE X < 2048 := Nat.mod_lt _ (by decide)
theorem xF_lt (X : Nat) : xF X < 4503599627370496 := Nat.mod_lt _ (by decide)
theorem x_word {X : Nat} (h : X < 18446744073709551616) : X = (if xS X = true then 9223372036854775808 else 0) + (xE X * 4503599627370496 + xF X) := by
  unfold xE xF xS
  by_cases h1 : 9223372036854775808 ≤ X
  · rw [if_pos (decide_eq_true h1)]; omega
  · rw [if_neg (by simp only [decide_eq_true_eq]; exact h1)]; omega
theorem xM_lt (X : Nat) : xM X < 9007199254740992 := by have := xF_lt X; unfold xM; split <;> omega
theorem xP_lo (X : Nat) : -1074 ≤ xP X := by unfold xP; split <;> omega
theorem xP_hi (X : Nat) : xP X ≤ 972 := by have := xE_lt X; unfold xP; split <;> omega
theorem xP_fin {X : Nat} (h : xE X ≠ 2047) : xP X ≤ 971 := by have := xE_lt X; unfold xP; split <;> omega
/-- The word of the magnitude. -/
theorem x_fl {X : Nat} (hE : xE X ≠ 2047) (h0 : xM X ≠ 0) : fl (xM X) (xP X) = xE X * 4503599627370496 + xF X := by
  have hF := xF_lt X
  have hE2 := xE_lt X
  unfold xM xP at *
  by_cases h : xE X = 0
  · rw [if_pos h] at h0
    rw [if_pos h, if_pos h, show (1 : Int) - 1075 = -1074 by omega, fl_low h0 hF, h]; omega
  · rw [if_neg h, if_neg h, fl_norm (by omega) (by omega) (by omega) (by omega)]; omega
theorem x_top {X : Nat} (h0 : xM X ≠ 0) (s : Int) (hs : s = xP X) : max (((xM X).log2 : Int) + s - (53 : Nat) + 1) (-1074) = s ∧ (xM X).log2 ≤ 52 := by
  have hF := xF_lt X
  have hE2 := xE_lt X
  by_cases h : xE X = 0
  · have hm : xM X = xF X := by unfold xM; rw [if_pos h]
    have hp : s = -1074 := by rw [hs]; unfold xP; rw [if_pos h]; omega
    have hl : (xM X).log2 < 52 := (Nat.log2_lt h0).2 (by rw [hm, show (2 : Nat) ^ 52 = 4503599627370496 by decide]; exact hF)
    omega
  · have hm : xM X = 4503599627370496 + xF X := by unfold xM; rw [if_neg h]
    have hl : (xM X).log2 = 52 := log2_52 (by omega) (xM_lt X)
    have hp : -1074 ≤ s := by rw [hs]; exact xP_lo X
    omega
/-- Rounding the value of a word to nearest. -/
theorem x_back {X d : Nat} {a : Int} (hX : X < 18446744073709551616) (hE : xE X ≠ 2047) (hd : d ≠ 0) (h : a * ((2 ^ (-(xP X)).toNat : Nat) : Int) = zi (xS X) (xM X * 2 ^ (xP X).toNat) * (d : Int)) : srnd 53 (-1074) 1024 a d 2 = if xM X = 0 then 0 else X := by
  have p1 : 0 < 2 ^ (-(xP X)).toNat := Nat.pow_pos (by omega)
  have p2 : 0 < 2 ^ (xP X).toNat := Nat.pow_pos (by omega)
  by_cases h0 : xM X = 0
  · rw [if_pos h0]
    rw [h0, Nat.zero_mul, zi_zero, Int.zero_mul] at h
    have ha : a = 0 := by
      rcases Int.mul_eq_zero.1 h with h1 | h1
      · exact h1
      · exfalso; generalize 2 ^ (-(xP X)).toNat = t at *; omega
    unfold srnd; rw [if_pos ha]
  · rw [if_neg h0]
    have hab : ab a * 2 ^ (-(xP X)).toNat = xM X * (d * 2 ^ (xP X).toNat) := by
      have h1 := congrArg Int.natAbs h
      rw [Int.natAbs_mul, Int.natAbs_mul, Int.natAbs_natCast, Int.natAbs_natCast] at h1
      have h2 : (zi (xS X) (xM X * 2 ^ (xP X).toNat)).natAbs = xM X * 2 ^ (xP X).toNat := zi_ab _ _
      rw [h2] at h1
      show a.natAbs * _ = _
      rw [h1, Nat.mul_assoc, Nat.mul_comm d]
    have hpos : 0 < xM X * (d * 2 ^ (xP X).toNat) := Nat.mul_pos (by omega) (Nat.mul_pos (by omega) p2)
    have ha2 : ab a ≠ 0 := fun e => by rw [e, Nat.zero_mul] at hab; omega
    have ha : a ≠ 0 := fun e => ha2 (by rw [e]; rfl)
    have hs : sn a = xS X := by
      have hz : zi (xS X) (xM X * 2 ^ (xP X).toNat) ≠ 0 := fun e => by
        have h3 := congrArg ab e; rw [zi_ab] at h3
        have : 0 < xM X * 2 ^ (xP X).toNat := Nat.mul_pos (by omega) p2
        rw [h3] at this; exact absurd this (by decide)
      have q1 : sn (a * ((2 ^ (-(xP X)).toNat : Nat) : Int)) = sn a := by
        unfold sn; rw [Bool.eq_iff_iff, decide_eq_true_eq, decide_eq_true_eq]
        generalize 2 ^ (-(xP X)).toNat = t at *
        constructor
        · intro q; exact Int.not_le.1 (fun r => absurd q (Int.not_lt.2 (Int.mul_nonneg r (by omega))))
        · intro q; exact Int.mul_neg_of_neg_of_pos q (by omega)
      have q2 : sn (zi (xS X) (xM X * 2 ^ (xP X).toNat) * (d : Int)) = xS X := by
        have e : zi (xS X) (xM X * 2 ^ (xP X).toNat) * (d : Int) = zi (xS X) (xM X * 2 ^ (xP X).toNat * d) := by
          unfold zi; split
          · rw [Int.neg_mul, ← Int.natCast_mul]
          · rw [← Int.natCast_mul]
        rw [e]; exact zi_sn _ (Nat.mul_ne_zero (Nat.mul_ne_zero h0 (by omega)) hd)
      rw [← q1, h, q2]
    have hq : qq (ab a) d (xP X) = xM X := by
      unfold qq un2; rw [hab]; exact Nat.mul_div_cancel _ (Nat.mul_pos (by omega) p2)
    have hr : rr (ab a) d (xP X) = 0 := by
      unfold rr un2; rw [hab]; exact Nat.mul_mod_left _ _
    have hl := lgq_of ha2 hd (T := xP X) (by rw [hq]; exact h0)
    rw [hq] at hl
    obtain ⟨ht, hlt⟩ := x_top h0 (xP X) rfl
    have hT : lst 53 (-1074) (ab a) d = xP X := by unfold lst; rw [hl]; exact ht
    have hi : incN 53 (-1074) (ab a) d = false := by
      unfold incN; rw [hT, hr]
      have := un2_pos hd (xP X)
      generalize un2 d (xP X) = u at *
      rw [decide_eq_false (show ¬ u < 2 * 0 by omega), decide_eq_false (show ¬ u = 2 * 0 by omega)]; rfl
    have hp := xP_fin hE
    rw [srnd_near ha, hi, hs]
    have hR : rnd 53 (-1074) 1024 (ab a) d false = xE X * 4503599627370496 + xF X := by
      unfold rnd; rw [hT, hq]
      rw [show (false : Bool).toNat = 0 from rfl, Nat.add_zero, if_neg h0, if_neg (by omega), x_fl hE h0]
    rw [hR]
    have hF := xF_lt X
    have hE2 := xE_lt X
    have hw := x_word hX
    have hne : xE X * 4503599627370496 + xF X ≠ 0 := by
      intro e
      apply h0
      unfold xM
      rw [if_pos (by omega)]; omega
    cases hsx : xS X
    · rw [hsx, if_neg (by decide)] at hw
      rw [sf_false]; omega
    · rw [hsx, if_pos rfl] at hw
      rw [sf_true hne, neg_word (by omega)]; exact hw.symm
/-- The value as a fraction with any great enough power of two below. -/
theorem x_scale (X : Nat) {k : Nat} (hk : 0 ≤ xP X + k) : ((zi (xS X) (xM X * 2 ^ (xP X + k).toNat) : Int) : Rat) = xV X * ((2 ^ k : Nat) : Rat) := by
  have p1 : 0 < 2 ^ (-(xP X)).toNat := Nat.pow_pos (by omega)
  have e0 := rat_ne p1
  have e1 : zi (xS X) (xM X * 2 ^ (xP X + k).toNat) * ((2 ^ (-(xP X)).toNat : Nat) : Int) = zi (xS X) (xM X * 2 ^ (xP X).toNat) * ((2 ^ k : Nat) : Int) := by
    have e2 : xM X * 2 ^ (xP X + k).toNat * 2 ^ (-(xP X)).toNat = xM X * 2 ^ (xP X).toNat * 2 ^ k := by
      rw [Nat.mul_assoc, Nat.mul_assoc, ← Nat.pow_add, ← Nat.pow_add]; congr 2; omega
    unfold zi; split
    · rw [Int.neg_mul, Int.neg_mul, ← Int.natCast_mul, ← Int.natCast_mul, e2]
    · rw [← Int.natCast_mul, ← Int.natCast_mul, e2]
  have e3 : ((zi (xS X) (xM X * 2 ^ (xP X + k).toNat) : Int) : Rat) * ((2 ^ (-(xP X)).toNat : Nat) : Rat) = ((zi (xS X) (xM X * 2 ^ (xP X).toNat) : Int) : Rat) * ((2 ^ k : Nat) : Rat) := by
    have := congrArg (fun z : Int => (z : Rat)) e1
    simp only [Rat.intCast_mul] at this
    exact this
  unfold xV
  generalize ((zi (xS X) (xM X * 2 ^ (xP X + k).toNat) : Int) : Rat) = u at *
  generalize ((zi (xS X) (xM X * 2 ^ (xP X).toNat) : Int) : Rat) = v at *
  generalize ((2 ^ (-(xP X)).toNat : Nat) : Rat) = b at *
  generalize ((2 ^ k : Nat) : Rat) = c at *
  rw [Rat.div_def]
  have e4 := Rat.mul_inv_cancel b e0
  grind
theorem x_re {X : Nat} {z : Cx} (h : z.re = xV X) : na z * ((2 ^ (-(xP X)).toNat : Nat) : Int) = zi (xS X) (xM X * 2 ^ (xP X).toNat) * (nd z : Int) := by
  have e0 := rat_ne (d := 2 ^ (-(xP X)).toNat) (Nat.pow_pos (by omega))
  have e1 := na_eq z
  have e2 : ((na z * ((2 ^ (-(xP X)).toNat : Nat) : Int) : Int) : Rat) = ((zi (xS X) (xM X * 2 ^ (xP X).toNat) * (nd z : Int) : Int) : Rat) := by
    rw [Rat.intCast_mul, Rat.intCast_mul, e1, h]
    unfold xV
    show _ * ((2 ^ (-(xP X)).toNat : Nat) : Rat) = _ * ((nd z : Nat) : Rat)
    generalize ((zi (xS X) (xM X * 2 ^ (xP X).toNat) : Int) : Rat) = v at *
    generalize ((2 ^ (-(xP X)).toNat : Nat) : Rat) = b at *
    rw [Rat.div_def]
    have e4 := Rat.mul_inv_cancel b e0
    grind
  exact Rat.intCast_inj.1 e2
theorem x_im {X : Nat} {z : Cx} (h : z.im = xV X) : nb z * ((2 ^ (-(xP X)).toNat : Nat) : Int) = zi (xS X) (xM X * 2 ^ (xP X).toNat) * (nd z : Int) := by
  have e0 := rat_ne (d := 2 ^ (-(xP X)).toNat) (Nat.pow_pos (by omega))
  have e1 := nb_eq z
  have e2 : ((nb z * ((2 ^ (-(xP X)).toNat : Nat) : Int) : Int) : Rat) = ((zi (xS X) (xM X * 2 ^ (xP X).toNat) * (nd z : Int) : Int) : Rat) := by
    rw [Rat.intCast_mul, Rat.intCast_mul, e1, h]
    unfold xV
    show _ * ((2 ^ (-(xP X)).toNat : Nat) : Rat) = _ * ((nd z : Nat) : Rat)
    generalize ((zi (xS X) (xM X * 2 ^ (xP X).toNat) : Int) : Rat) = v at *
    generalize ((2 ^ (-(xP X)).toNat : Nat) : Rat) = b at *
    rw [Rat.div_def]
    have e4 := Rat.mul_inv_cancel b e0
    grind
  exact Rat.intCast_inj.1 e2
/-- The number of two words. -/
def cx (X Y : Nat) : Cx := ⟨xV X, xV Y⟩
theorem x_fr (X Y k : Nat) (hx : 0 ≤ xP X + k) (hy : 0 ≤ xP Y + k) : fr (zi (xS X) (xM X * 2 ^ (xP X + k).toNat)) (zi (xS Y) (xM Y * 2 ^ (xP Y + k).toNat)) (2 ^ k) = cx X Y :=
  fr_eq (Nat.pow_pos (by omega)) (x_scale X hx) (x_scale Y hy)
theorem xM_ln {X j : Nat} : ln (xM X * 2 ^ j) ≤ j / 32 + 3 := by
  have h1 : ln (xM X) ≤ 2 := ln_le (by have := xM_lt X; rw [show (4294967296 : Nat) ^ 2 = 18446744073709551616 by decide]; omega)
  have := nat_mul_ln h1 (ln_pow2 j)
  omega
theorem cx_sz (X Y : Nat) : sz 80 (cx X Y) := by
  have h1 := xP_lo X; have h2 := xP_lo Y; have h3 := xP_hi X; have h4 := xP_hi Y
  obtain ⟨k, hk⟩ : ∃ k : Nat, k = 1074 := ⟨_, rfl⟩
  rw [← x_fr X Y k (by omega) (by omega)]
  refine fr_sz (by have : 0 < 2 ^ k := Nat.pow_pos (by omega); exact Nat.ne_of_gt this) ?_ ?_ ?_
  · rw [zi_ab]; have := @xM_ln X (xP X + (k : Nat)).toNat; omega
  · rw [zi_ab]; have := @xM_ln Y (xP Y + (k : Nat)).toNat; omega
  · have := ln_pow2 k; omega
/-- The nearest words of the number of two words. -/
theorem cx_near {X Y : Nat} (hX : X < 18446744073709551616) (hY : Y < 18446744073709551616) (hE : xE X ≠ 2047) (hF : xE Y ≠ 2047) : srnd 53 (-1074) 1024 (na (cx X Y)) (nd (cx X Y)) 2 = (if xM X = 0 then 0 else X) ∧ srnd 53 (-1074) 1024 (nb (cx X Y)) (nd (cx X Y)) 2 = if xM Y = 0 then 0 else Y :=
  ⟨x_back hX hE (nd_ne0 _) (x_re rfl), x_back hY hF (nd_ne0 _) (x_im rfl)⟩
end Fl
end Go.Proofs.YtgpmlhpgdalheaaGreat

namespace Go.Proofs.YtgpmlhpgdalheaaGreat
open Go.RowKit Pl Fl
set_option linter.unusedVariables false
set_option linter.unusedSimpArgs false
namespace Fl
open Ieee
/-- The value of a word's magnitude, in units of the least place. -/
def xN (X : Nat) : Nat := xM X * 2 ^ (xP X + 1074).toNat
theorem w_parts {q t : Nat} (hq : q < 9007199254740992) (h : t = 0 ∨ 4503599627370496 ≤ q) (ht : t ≤ 2045) : xM (t * 4503599627370496 + q) = q ∧ xP (t * 4503599627370496 + q) = (t : Int) - 1074 ∧ t * 4503599627370496 + q < 9218868437227405312 := by
  by_cases h1 : q < 4503599627370496
  · have h2 : t = 0 := by omega
    subst h2
    have e1 : xE (0 * 4503599627370496 + q) = 0 := by unfold xE; omega
    have e2 : xF (0 * 4503599627370496 + q) = q := by unfold xF; omega
    refine ⟨?_, ?_, by omega⟩
    · unfold xM; rw [if_pos e1, e2]
    · unfold xP; rw [if_pos e1]; omega
  · have e1 : xE (t * 4503599627370496 + q) = t + 1 := by unfold xE; omega
    have e2 : xF (t * 4503599627370496 + q) = q - 4503599627370496 := by unfold xF; omega
    refine ⟨?_, ?_, by omega⟩
    · unfold xM; rw [if_neg (by omega), e2]; omega
    · unfold xP; rw [if_neg (by omega), e1]; omega
theorem fl_w {q t : Nat} (h0 : q ≠ 0) (hq : q < 9007199254740992) (h : t = 0 ∨ 4503599627370496 ≤ q) (ht : t ≤ 2045) : fl q ((t : Int) - 1074) = t * 4503599627370496 + q := by
  by_cases h1 : q < 4503599627370496
  · have h2 : t = 0 := by omega
    subst h2
    rw [show ((0 : Nat) : Int) - 1074 = -1074 by omega, fl_low h0 h1]; omega
  · rw [fl_norm (by omega) hq (by omega) (by omega)]; omega
theorem fl_w2 {t : Nat} (ht : t ≤ 2044) : fl 9007199254740992 ((t : Int) - 1074) = t * 4503599627370496 + 9007199254740992 := by
  have h := nearest_shift double false (m := 4503599627370496) (by omega) 1 ((t : Int) - 1074)
  rw [show 4503599627370496 * 2 ^ 1 = 9007199254740992 by decide] at h
  have h2 := fl_w (q := 4503599627370496) (t := t + 1) (by omega) (by omega) (by omega) (by omega)
  unfold fl at h2 ⊢
  rw [h, show (t : Int) - 1074 + (1 : Nat) = ((t + 1 : Nat) : Int) - 1074 by omega, h2]; omega
theorem log2_53 {q : Nat} (h : q = 9007199254740992) : q.log2 = 53 := by
  rw [h, show (9007199254740992 : Nat) = 1 * 2 ^ 53 by decide, log2_mul_pow (by omega)]; rfl
theorem qr_mul {kL : Nat} (kL_eq : kL = 1074) {A d t : Nat} (hd : d ≠ 0) : ∃ u, 0 < u ∧ A * 2 ^ kL = qq A d ((t : Int) - 1074) * 2 ^ t * d + rr A d ((t : Int) - 1074) * u ∧ rr A d ((t : Int) - 1074) * u < 2 ^ t * d := by
  obtain ⟨s, hs1, hs2⟩ : ∃ s : Nat, (-((t : Int) - 1074)).toNat + s = kL ∧ ((t : Int) - 1074).toNat + s = t := ⟨1074 - (-((t : Int) - 1074)).toNat, by rw [kL_eq]; omega, by omega⟩
  have hu := un2_pos hd ((t : Int) - 1074)
  have h1 := Nat.div_add_mod (A * 2 ^ (-((t : Int) - 1074)).toNat) (un2 d ((t : Int) - 1074))
  have h2 : A * 2 ^ (-((t : Int) - 1074)).toNat % un2 d ((t : Int) - 1074) < un2 d ((t : Int) - 1074) := Nat.mod_lt _ hu
  have e1 : un2 d ((t : Int) - 1074) * 2 ^ s = 2 ^ t * d := by
    unfold un2; rw [Nat.mul_assoc, ← Nat.pow_add, hs2, Nat.mul_comm]
  have p : 0 < 2 ^ s := Nat.pow_pos (by omega)
  refine ⟨2 ^ s, p, ?_, ?_⟩
  · have e2 : A * 2 ^ kL = A * 2 ^ (-((t : Int) - 1074)).toNat * 2 ^ s := by rw [Nat.mul_assoc, ← Nat.pow_add, hs1]
    rw [e2, ← h1, Nat.add_mul]
    congr 1
    show un2 d ((t : Int) - 1074) * qq A d ((t : Int) - 1074) * 2 ^ s = _
    rw [Nat.mul_assoc (qq A d _), ← e1, Nat.mul_comm (un2 d _), Nat.mul_assoc]
  · rw [← e1]; exact (Nat.mul_lt_mul_right p).2 h2
theorem xN_max {kH : Nat} (kH_eq : kH = 2045) : xN 9218868437227405311 = 9007199254740991 * 2 ^ kH := by
  have h := w_parts (q := 9007199254740991) (t := 2045) (by omega) (by omega) (by omega)
  rw [show 2045 * 4503599627370496 + 9007199254740991 = 9218868437227405311 by decide] at h
  unfold xN; rw [h.1, h.2.1, show (((2045 : Nat) : Int) - 1074 + 1074).toNat = kH by rw [kH_eq]; omega]
theorem max_below {kL : Nat} (kL_eq : kL = 1074) {A d N : Nat} (hA : A ≠ 0) (hd : d ≠ 0) (hbg : (1024 : Int) ≤ lgq A d) (hN : ∀ kH, kH = 2045 → N = 9007199254740991 * 2 ^ kH) : N * d < A * 2 ^ kL := by
  obtain ⟨kH, kH_eq⟩ : ∃ k : Nat, k = 2045 := ⟨_, rfl⟩
  obtain ⟨kT, kT_eq⟩ : ∃ k : Nat, k = 1024 := ⟨_, rfl⟩
  have hge : d * 2 ^ kT ≤ A := by
    have h5 := mt (bl_iff hA hd 1024).1 (by omega)
    unfold Bl at h5
    rw [show (-(1024 : Int)).toNat = 0 by omega, Nat.pow_zero, Nat.mul_one, show (1024 : Int).toNat = kT by rw [kT_eq]; omega] at h5
    omega
  rw [hN kH kH_eq]
  have h6 : d * 2 ^ kT * 2 ^ kL ≤ A * 2 ^ kL := Nat.mul_le_mul_right _ hge
  have h7 : d * 2 ^ kT * 2 ^ kL = 9007199254740992 * 2 ^ kH * d := by
      rw [Nat.mul_assoc, ← Nat.pow_add, show kT + kL = 53 + kH by rw [kT_eq, kL_eq, kH_eq], Nat.pow_add, show (2 : Nat) ^ 53 = 9007199254740992 by decide, Nat.mul_comm]
  have p : 0 < 2 ^ kH := Nat.pow_pos (by omega)
  have h8 : 9007199254740991 * 2 ^ kH * d < 9007199254740992 * 2 ^ kH * d := (Nat.mul_lt_mul_right (by omega)).2 ((Nat.mul_lt_mul_right p).2 (by omega))
  rw [← h7] at h8
  exact Nat.lt_of_lt_of_le h8 h6
/-- The words of a magnitude below and above. -/
theorem dir_mag {kL : Nat} (kL_eq : kL = 1074) {A d : Nat} (hA : A ≠ 0) (hd : d ≠ 0) : ∃ D U, prnd 53 (-1074) 1024 A d 0 = D ∧ prnd 53 (-1074) 1024 A d 1 = U ∧ D < 9218868437227405312 ∧ U ≤ 9218868437227405312 ∧ xN D * d ≤ A * 2 ^ kL ∧ ((U = D ∧ xN D * d = A * 2 ^ kL) ∨ (U = D + 1 ∧ xN D * d < A * 2 ^ kL ∧ (U < 9218868437227405312 → A * 2 ^ kL < xN U * d))) := by
  obtain ⟨T, hT⟩ : ∃ T, T = lst 53 (-1074) A d := ⟨_, rfl⟩
  have hTl : -1074 ≤ T := by rw [hT]; unfold lst; omega
  obtain ⟨t, ht⟩ : ∃ t : Nat, T = (t : Int) - 1074 := ⟨(T + 1074).toNat, by omega⟩
  obtain ⟨q, hq⟩ : ∃ q, q = qq A d ((t : Int) - 1074) := ⟨_, rfl⟩
  obtain ⟨r, hr⟩ : ∃ r, r = rr A d ((t : Int) - 1074) := ⟨_, rfl⟩
  obtain ⟨u, hu, m1, m2⟩ := qr_mul kL_eq (A := A) (t := t) hd
  rw [← hq, ← hr] at m1
  rw [← hr] at m2
  have M1 := Lib.hid m1
  have M2 := Lib.hid m2
  clear m1 m2
  have hlt : q < 9007199254740992 := by
    have := lst_lt (size := 53) (low := -1074) hA hd
    rw [← hT, ht, ← hq, show (2 : Nat) ^ 53 = 9007199254740992 by decide] at this; exact this
  have hbig : t = 0 ∨ 4503599627370496 ≤ q := by
    by_cases h : t = 0
    · exact .inl h
    · refine .inr (Nat.not_lt.1 fun h2 => ?_)
      have h3 := (qq_lt hA hd ((t : Int) - 1074) 52).1 (by rw [← hq, show (2 : Nat) ^ 52 = 4503599627370496 by decide]; exact h2)
      unfold lst at hT
      omega
  have i0 : prnd 53 (-1074) 1024 A d 0 = if 1024 ≤ lgq A d then 9218868437227405311 else rnd 53 (-1074) 1024 A d false := by
    unfold prnd incW
    by_cases h : (1024 : Int) ≤ lgq A d
    · rw [if_pos ⟨rfl, h⟩, if_pos h, max_fl]
    · rw [if_neg (fun h2 => h h2.2), if_neg h, if_pos rfl]
  have I0 := Lib.hid i0
  clear i0
  have i1 : Hid (prnd 53 (-1074) 1024 A d 1 = rnd 53 (-1074) 1024 A d (decide (r ≠ 0))) := Lib.hid (by
    unfold prnd incW
    rw [if_neg (fun h2 => absurd h2.1 (by decide)), if_neg (by decide), if_pos rfl, ← hT, ht, ← hr])
  have R : ∀ b : Bool, rnd 53 (-1074) 1024 A d b = if q + b.toNat = 0 then 0 else if 1024 ≤ ((q + b.toNat).log2 : Int) + ((t : Int) - 1074) then 9218868437227405312 else fl (q + b.toNat) ((t : Int) - 1074) := by
    intro b; unfold rnd; rw [← hT, ht, ← hq]
  by_cases hbg : (1024 : Int) ≤ lgq A d
  · have hq0 : q ≠ 0 := by
      intro e
      have h3 := (qq_lt hA hd ((t : Int) - 1074) 0).1 (by rw [← hq, e]; decide)
      unfold lst at hT; omega
    have hlq : lgq A d = q.log2 + ((t : Int) - 1074) := by
      have := lgq_of hA hd (T := (t : Int) - 1074) (by rw [← hq]; exact hq0)
      rwa [← hq] at this
    have hU : prnd 53 (-1074) 1024 A d 1 = 9218868437227405312 := by
      rw [i1.out, R]
      have h4 : q.log2 ≤ (q + (decide (r ≠ 0)).toNat).log2 := (Nat.le_log2 (by omega)).2 (Nat.le_trans (Nat.log2_self_le hq0) (by omega))
      rw [if_neg (by omega), if_pos (by omega)]
    have hlt2 : xN 9218868437227405311 * d < A * 2 ^ kL := max_below kL_eq hA hd hbg (fun k hk => xN_max hk)
    exact ⟨_, _, I0.out.trans (if_pos hbg), hU, by omega, by omega, Nat.le_of_lt hlt2, .inr ⟨by omega, hlt2, fun h => absurd h (by omega)⟩⟩
  · have hl2 : q ≠ 0 → (q.log2 : Int) + ((t : Int) - 1074) < 1024 := by
      intro hq0
      have := lgq_of hA hd (T := (t : Int) - 1074) (by rw [← hq]; exact hq0)
      rw [← hq] at this; omega
    have ht2 : t ≤ 2045 := by
      rcases hbig with h | h
      · omega
      · have := hl2 (by omega)
        rw [log2_52 h hlt] at this; omega
    have hD : prnd 53 (-1074) 1024 A d 0 = t * 4503599627370496 + q := by
      rw [I0.out, if_neg hbg, R, show (false : Bool).toNat = 0 from rfl, Nat.add_zero]
      by_cases h0 : q = 0
      · rw [if_pos h0, h0, (show t = 0 from hbig.resolve_right (by rw [h0]; decide)), Nat.zero_mul]
      · have := hl2 h0
        rw [if_neg h0, if_neg (by omega), fl_w h0 hlt hbig ht2]
    have w3 : t * 4503599627370496 + q < 9218868437227405312 := (w_parts hlt hbig ht2).2.2
    have hND : xN (t * 4503599627370496 + q) = q * 2 ^ t := by
      have e9 : ((t : Int) - 1074 + 1074).toNat = t := by omega
      obtain ⟨w1, w2, _⟩ := w_parts hlt hbig ht2
      unfold xN; rw [w1, w2, e9]
    have m1 := M1.out
    have m2 := M2.out
    by_cases hr0 : r = 0
    · have hU : prnd 53 (-1074) 1024 A d 1 = t * 4503599627370496 + q := by
        rw [i1.out, decide_eq_false (fun h => h hr0), ← hD, I0.out, if_neg hbg]
      refine ⟨_, _, hD, hU, w3, by omega, ?_, .inl ⟨rfl, ?_⟩⟩
      · rw [hND, m1, hr0, Nat.zero_mul, Nat.add_zero]; exact Nat.le_refl _
      · rw [hND, m1, hr0, Nat.zero_mul, Nat.add_zero]
    · have hru : 0 < r * u := Nat.mul_pos (by omega) hu
      have hlo : xN (t * 4503599627370496 + q) * d < A * 2 ^ kL := by rw [hND, m1]; omega
      have hU : prnd 53 (-1074) 1024 A d 1 = t * 4503599627370496 + (q + 1) := by
        rw [i1.out, decide_eq_true hr0, R, show (true : Bool).toNat = 1 from rfl, if_neg (by omega)]
        by_cases h53 : q + 1 = 9007199254740992
        · rw [h53, log2_53 rfl]
          by_cases h45 : t = 2045
          · rw [if_pos (by omega), h45]
          · rw [if_neg (by omega), fl_w2 (by omega)]
        · have hl : (q + 1).log2 < 53 := (Nat.log2_lt (by omega)).2 (by rw [show (2 : Nat) ^ 53 = 9007199254740992 by decide]; omega)
          rw [if_neg (by omega), fl_w (by omega) (by omega) (by omega) ht2]
      refine ⟨_, _, hD, hU, w3, by omega, Nat.le_of_lt hlo, .inr ⟨by omega, hlo, fun hfin => ?_⟩⟩
      have hNU : xN (t * 4503599627370496 + (q + 1)) = (q + 1) * 2 ^ t := by
        by_cases h53 : q + 1 = 9007199254740992
        · have h44 : t ≤ 2044 := by omega
          have e8 : (((t + 1 : Nat) : Int) - 1074 + 1074).toNat = t + 1 := by omega
          have e7 : t * 4503599627370496 + 9007199254740992 = (t + 1) * 4503599627370496 + 4503599627370496 := by omega
          obtain ⟨v1, v2, v3⟩ := w_parts (q := 4503599627370496) (t := t + 1) (by omega) (by omega) (by omega)
          rw [h53, e7]
          unfold xN
          rw [v1, v2, e8, Nat.pow_succ]
          clear v1 v2 v3 e7 e8
          generalize 2 ^ t = p
          omega
        · have e9 : ((t : Int) - 1074 + 1074).toNat = t := by omega
          obtain ⟨v1, v2, v3⟩ := w_parts (q := q + 1) (t := t) (by omega) (by omega) ht2
          unfold xN
          rw [v1, v2, e9]
      rw [hNU, m1, Nat.add_mul, Nat.add_mul, Nat.one_mul]
      omega
end Fl
end Go.Proofs.YtgpmlhpgdalheaaGreat

namespace Go.Proofs.YtgpmlhpgdalheaaGreat
open Go.RowKit Pl Fl
set_option linter.unusedVariables false
set_option linter.unusedSimpArgs false
namespace Fl
open Ieee
def xK (X : Nat) : Int := zi (xS X) (xN X)
theorem read_parts {X : Nat} (hX : X < 18446744073709551616) : (X / 9223372036854775808 % 2 == 1) = xS X ∧ X % 9223372036854775808 = xE X * 4503599627370496 + xF X ∧ X % 9223372036854775808 / 4503599627370496 = xE X ∧ X % 9223372036854775808 % 4503599627370496 = xF X := by
  unfold xS xE xF
  refine ⟨?_, by omega, by omega, by omega⟩
  rw [Bool.eq_iff_iff, beq_iff_eq, decide_eq_true_eq]; omega
theorem read_fin {X : Nat} (hX : X < 18446744073709551616) (h : xE X ≠ 2047) : double.read X = .number (xS X) (xM X) (xP X) := by
  obtain ⟨q1, q2, q3, q4⟩ := read_parts hX
  have h1 := xE_lt X
  have h2 := xF_lt X
  unfold Format.read
  simp only [dbl_sign, dbl_binade, dbl_inf, dbl_least, q1, q3, q4]
  rw [q2]
  unfold xM xP
  by_cases h0 : xE X = 0
  · rw [if_pos (by omega), if_pos h0, if_pos h0, h0, Nat.zero_mul, Nat.zero_add]; rfl
  · rw [if_neg (by omega), if_pos (by omega), if_neg h0, if_neg h0]
    congr 1
    omega
theorem read_inf {X : Nat} (hX : X < 18446744073709551616) (h : xE X = 2047) (h0 : xF X = 0) : double.read X = .infinity (xS X) := by
  obtain ⟨q1, q2, q3, q4⟩ := read_parts hX
  unfold Format.read
  simp only [dbl_sign, dbl_binade, dbl_inf, dbl_least, q1, q3, q4]
  rw [q2, if_neg (by omega), if_neg (by omega), if_pos (by omega)]
theorem read_nan {X : Nat} (hX : X < 18446744073709551616) (h : xE X = 2047) (h0 : xF X ≠ 0) : ∃ n, double.read X = .nan (xS X) n := by
  obtain ⟨q1, q2, q3, q4⟩ := read_parts hX
  unfold Format.read
  simp only [dbl_sign, dbl_binade, dbl_inf, dbl_least, q1, q3, q4]
  rw [q2, if_neg (by omega), if_neg (by omega), if_neg (by omega)]
  exact ⟨_, rfl⟩
theorem order_nan {X Y : Nat} (hX : X < 18446744073709551616) (h : xE X = 2047) (h0 : xF X ≠ 0) : double.order X Y = none := by
  obtain ⟨n, hn⟩ := read_nan hX h h0
  unfold Format.order; rw [hn]
  cases double.read Y <;> rfl
theorem cmp_scale {a b : Int} {c : Nat} (hc : 0 < c) : compare (a * (c : Int)) (b * (c : Int)) = compare a b := by
  have hc' : (0 : Int) < c := by omega
  rcases Int.lt_trichotomy a b with h | h | h
  · rw [Int.compare_eq_lt.2 h, Int.compare_eq_lt.2 (Int.mul_lt_mul_of_pos_right h hc')]
  · rw [h]; rw [Int.compare_eq_eq.2 rfl, Int.compare_eq_eq.2 rfl]
  · rw [Int.compare_eq_gt.2 h, Int.compare_eq_gt.2 (Int.mul_lt_mul_of_pos_right h hc')]
theorem zi_mul (s : Bool) (n c : Nat) : zi s n * (c : Int) = zi s (n * c) := by
  unfold zi; split
  · rw [Int.neg_mul, ← Int.natCast_mul]
  · rw [← Int.natCast_mul]
theorem signed_zi (s : Bool) (m k : Nat) : Ieee.signed s m k = zi s (m * 2 ^ k) := by
  unfold Ieee.signed zi; rw [Nat.shiftLeft_eq]
theorem key_scale (X : Nat) {b : Int} (h1 : b ≤ xP X) (h2 : -1074 ≤ b) : zi (xS X) (xM X * 2 ^ (xP X - b).toNat) * ((2 ^ (b + 1074).toNat : Nat) : Int) = xK X := by
  rw [zi_mul]; unfold xK xN
  rw [Nat.mul_assoc, ← Nat.pow_add]; congr 3; omega
theorem order_fin {X Y : Nat} (hX : X < 18446744073709551616) (hY : Y < 18446744073709551616) (h : xE X ≠ 2047) (k : xE Y ≠ 2047) : double.order X Y = some (compare (xK X) (xK Y)) := by
  have p1 := xP_lo X
  have p2 := xP_lo Y
  unfold Format.order Datum.order
  rw [read_fin hX h, read_fin hY k]
  simp only [signed_zi]
  rw [← key_scale X (b := min (xP X) (xP Y)) (by omega) (by omega), ← key_scale Y (b := min (xP X) (xP Y)) (by omega) (by omega), cmp_scale (Nat.pow_pos (by omega))]
theorem zi_bd (s : Bool) {n B : Nat} (h : n < B) : zi s n < zi false B ∧ zi true B < zi s n := by
  have e1 : zi false B = (B : Int) := rfl
  have e2 : zi true B = -(B : Int) := rfl
  rw [e1, e2]
  cases s
  · have e3 : zi false n = (n : Int) := rfl
    rw [e3]; omega
  · have e3 : zi true n = -(n : Int) := rfl
    rw [e3]; omega
theorem xN_fin {kH : Nat} (kH_eq : kH = 2045) {X : Nat} (h : xE X ≠ 2047) : xN X < 9007199254740992 * 2 ^ kH := by
  unfold xN
  have h1 := xM_lt X
  have h2 := xP_fin h
  have p : 0 < 2 ^ kH := Nat.pow_pos (by omega)
  refine Nat.lt_of_le_of_lt (Nat.mul_le_mul_left (xM X) (Nat.pow_le_pow_right (by omega) (show (xP X + 1074).toNat ≤ kH by rw [kH_eq]; omega))) ?_
  exact (Nat.mul_lt_mul_right p).2 h1
theorem xN_inf {kH : Nat} (kH_eq : kH = 2045) {X : Nat} (h : xE X = 2047) (h0 : xF X = 0) : xN X = 9007199254740992 * 2 ^ kH := by
  have e1 : xM X = 4503599627370496 := by unfold xM; rw [if_neg (by omega), h0]
  have e2 : xP X = 972 := by unfold xP; rw [if_neg (by omega), h]; omega
  unfold xN
  rw [e1, e2, show ((972 : Int) + 1074).toNat = kH + 1 by rw [kH_eq]; omega, Nat.pow_succ]
  generalize 2 ^ kH = p
  omega
/-- Two words that are no NaNs stand to each other as their keys do. -/
theorem order_key {X Y : Nat} (hX : X < 18446744073709551616) (hY : Y < 18446744073709551616) (h : xE X = 2047 → xF X = 0) (k : xE Y = 2047 → xF Y = 0) : double.order X Y = some (compare (xK X) (xK Y)) := by
  obtain ⟨kH, kH_eq⟩ : ∃ k : Nat, k = 2045 := ⟨_, rfl⟩
  have pB : 0 < 9007199254740992 * 2 ^ kH := Nat.mul_pos (by omega) (Nat.pow_pos (by omega))
  by_cases h1 : xE X = 2047
  · have nX := xN_inf kH_eq h1 (h h1)
    by_cases h2 : xE Y = 2047
    · have nY := xN_inf kH_eq h2 (k h2)
      unfold Format.order Datum.order
      rw [read_inf hX h1 (h h1), read_inf hY h2 (k h2)]
      unfold xK; rw [nX, nY]
      generalize 9007199254740992 * 2 ^ kH = B at *
      cases xS X <;> cases xS Y <;> simp only [zi] <;> simp
      · rw [Int.compare_eq_gt.2 (show -(B : Int) < B by omega)]; rfl
      · rw [Int.compare_eq_lt.2 (show -(B : Int) < B by omega)]; rfl
    · have nY := xN_fin kH_eq h2
      unfold Format.order Datum.order
      rw [read_inf hX h1 (h h1), read_fin hY h2]
      unfold xK; rw [nX]
      generalize 9007199254740992 * 2 ^ kH = B at *
      cases xS X
      · have := (zi_bd (xS Y) nY).1
        rw [Int.compare_eq_gt.2 this]; rfl
      · have := (zi_bd (xS Y) nY).2
        rw [Int.compare_eq_lt.2 this]; rfl
  · by_cases h2 : xE Y = 2047
    · have nY := xN_inf kH_eq h2 (k h2)
      have nX := xN_fin kH_eq h1
      unfold Format.order Datum.order
      rw [read_fin hX h1, read_inf hY h2 (k h2)]
      unfold xK; rw [nY]
      generalize 9007199254740992 * 2 ^ kH = B at *
      cases xS Y
      · have := (zi_bd (xS X) nX).1
        rw [Int.compare_eq_lt.2 this]; rfl
      · have := (zi_bd (xS X) nX).2
        rw [Int.compare_eq_gt.2 this]; rfl
    · exact order_fin hX hY h1 h2
end Fl
end Go.Proofs.YtgpmlhpgdalheaaGreat

namespace Go.Proofs.YtgpmlhpgdalheaaGreat
open Go.RowKit Pl Fl
set_option linter.unusedVariables false
set_option linter.unusedSimpArgs false
namespace Fl
open Ieee
theorem and63g {a : Nat} (h : a < 18446744073709551616) : bits .andNot .u64 (a : Int) 9223372036854775808 = ((a % 9223372036854775808 : Nat) : Int) := by
  have := andNot_nat a 9223372036854775808 h (by decide) (a % 9223372036854775808) (by omega) (fun i hi => by
    rw [show (9223372036854775808 : Nat) = 2 ^ 63 by decide, Nat.testBit_two_pow, Nat.testBit_mod_two_pow]
    by_cases h1 : 63 = i
    · subst h1; simp
    · have h2 : i < 63 := by omega
      simp [h1, h2])
  exact this
theorem mant52 {a : Nat} (h : a < 18446744073709551616) : bits .and .u64 (a : Int) 4503599627370495 = (xF a : Int) := by
  have := bits_mask .u64 64 (by decide) wraps_u64 52 (by decide) (a : Int) (by omega) (by rw [show (2 : Int) ^ 64 = 18446744073709551616 by decide]; omega)
  rw [show ((2 : Int) ^ 52 - 1) = 4503599627370495 by decide, show (2 : Int) ^ 52 = 4503599627370496 by decide] at this
  rw [this]; unfold xF; omega
theorem mexp11 {a : Nat} (h : a < 18446744073709551616) : bits .and .u64 ((a : Int) / 4503599627370496) 2047 = (xE a : Int) := by
  have := bits_mask .u64 64 (by decide) wraps_u64 11 (by decide) ((a : Int) / 4503599627370496) (by omega) (by rw [show (2 : Int) ^ 64 = 18446744073709551616 by decide]; omega)
  rw [show ((2 : Int) ^ 11 - 1) = 2047 by decide, show (2 : Int) ^ 11 = 2048 by decide] at this
  rw [this]; unfold xE; omega
theorem or52 {f : Nat} (h : f < 4503599627370496) : bits .or .u64 (f : Int) 4503599627370496 = ((4503599627370496 + f : Nat) : Int) := by
  have h2 := join52 (f := f) (E := 1) h (by omega)
  rw [show ((1 * 4503599627370496 : Nat) : Int) = 4503599627370496 by decide] at h2
  rw [h2, Nat.one_mul]
theorem sgn63 {a : Nat} (h : a < 18446744073709551616) : ((a : Int) / 9223372036854775808 == 1) = xS a := by
  unfold xS; rw [Bool.eq_iff_iff, beq_iff_eq, decide_eq_true_eq]; omega
theorem xK_max {kH : Nat} (kH_eq : kH = 2045) : xK 9218868437227405311 = 9007199254740991 * 2 ^ kH := by
  have h := w_parts (q := 9007199254740991) (t := 2045) (by omega) (by omega) (by omega)
  rw [show 2045 * 4503599627370496 + 9007199254740991 = 9218868437227405311 by decide] at h
  unfold xK xN xS
  rw [h.1, h.2.1, decide_eq_false (by decide), show (((2045 : Nat) : Int) - 1074 + 1074).toNat = kH by rw [kH_eq]; omega]
  show ((9007199254740991 * 2 ^ kH : Nat) : Int) = _
  rw [Int.natCast_mul, Int.natCast_pow]; rfl
theorem ord_nan {X : Nat} (hX : X < 18446744073709551616) : (FloatKind.f64.format.order X X != some Ordering.eq) = decide (xE X = 2047 ∧ xF X ≠ 0) := by
  show (double.order X X != some Ordering.eq) = _
  by_cases h : xE X = 2047 ∧ xF X ≠ 0
  · rw [order_nan hX h.1 h.2, decide_eq_true h]; rfl
  · have h2 : xE X = 2047 → xF X = 0 := fun e => Decidable.byContradiction fun f => h ⟨e, f⟩
    rw [order_key hX hX h2 h2, Int.compare_eq_eq.2 rfl, decide_eq_false h]; rfl
theorem abs_parts (X : Nat) : xE (X % 9223372036854775808) = xE X ∧ xF (X % 9223372036854775808) = xF X ∧ xS (X % 9223372036854775808) = false := by
  unfold xE xF xS
  refine ⟨by omega, by omega, decide_eq_false (by omega)⟩
theorem xN_abs (X : Nat) : xN (X % 9223372036854775808) = xN X := by
  obtain ⟨h1, h2, _⟩ := abs_parts X
  unfold xN xM xP; rw [h1, h2]
theorem ord_max {X : Nat} (hX : X < 18446744073709551616) (h : xE X = 2047 → xF X = 0) : (FloatKind.f64.format.order (X % 9223372036854775808) 9218868437227405311 == some Ordering.gt) = decide (xE X = 2047) := by
  show (double.order (X % 9223372036854775808) 9218868437227405311 == some Ordering.gt) = _
  obtain ⟨kH, kH_eq⟩ : ∃ k : Nat, k = 2045 := ⟨_, rfl⟩
  obtain ⟨h1, h2, h3⟩ := abs_parts X
  rw [order_key (by omega) (by decide) (by rw [h1, h2]; exact h) (by intro e; exact absurd e (by decide)), xK_max kH_eq]
  have e1 : xK (X % 9223372036854775808) = (xN X : Int) := by unfold xK; rw [h3, xN_abs]; rfl
  rw [e1]
  by_cases hE : xE X = 2047
  · rw [decide_eq_true hE, xN_inf kH_eq hE (h hE), Int.natCast_mul, Int.natCast_pow, show ((9007199254740992 : Nat) : Int) = 9007199254740992 from rfl, show ((2 : Nat) : Int) = 2 from rfl]
    have p : (0 : Int) < 2 ^ kH := Int.pow_pos (by omega)
    generalize (2 : Int) ^ kH = P at *
    rw [Int.compare_eq_gt.2 (show (9007199254740991 * P) < 9007199254740992 * P by omega)]; rfl
  · rw [decide_eq_false hE]
    have hN : xN X ≤ 9007199254740991 * 2 ^ kH := by
      unfold xN
      have m1 := xM_lt X
      have m2 := xP_fin hE
      exact Nat.mul_le_mul (by omega) (Nat.pow_le_pow_right (by omega) (by rw [kH_eq]; omega))
    have hZ : (xN X : Int) ≤ 9007199254740991 * 2 ^ kH := by
      have := Int.ofNat_le.2 hN
      rw [Int.natCast_mul, Int.natCast_pow] at this; exact this
    generalize (9007199254740991 : Int) * 2 ^ kH = P at *
    rw [beq_eq_false_iff_ne]
    intro e
    injection e with e
    have := Int.compare_eq_gt.1 e
    omega
end Fl
set_option maxHeartbeats 1000000 in
theorem isnan_any (X : Nat) (hX : X < 18446744073709551616) (w : World) : Calls Tryz.prog 128 #[.float .f64 X] w fun r w' => r = .returned (.bool (decide (xE X = 2047 ∧ xF X ≠ 0))) ∧ w' = w := by
  have e := ord_nan hX
  obtain ⟨b, hb⟩ : ∃ b, b = decide (xE X = 2047 ∧ xF X ≠ 0) := ⟨_, rfl⟩
  rw [← hb] at e ⊢
  clear hb
  go_enter Tryz.func128, Tryz.ntmps128
  go_wp2_with fail
  go_ret
  exact ⟨rfl, rfl⟩
set_option maxHeartbeats 1000000 in
theorem abs_float (X : Nat) (hX : X < 18446744073709551616) (w : World) : Calls Tryz.prog 127 #[.float .f64 X] w fun r w' => r = .returned (.float .f64 (X % 9223372036854775808)) ∧ w' = w := by
  have e := and63g hX
  have g1 : ∀ w, (callFunc 60 #[.int .u64 ((X % 9223372036854775808 : Nat) : Int)]).run Tryz.prog w = .ok (.value (.float .f64 (X % 9223372036854775808))) w := fun w => f64from _ w
  have g2 := f64bits
  obtain ⟨Y, hY⟩ : ∃ Y, Y = X % 9223372036854775808 := ⟨_, rfl⟩
  rw [← hY] at e g1 ⊢
  clear hY
  go_enter Tryz.func127, Tryz.ntmps127
  go_wp2_with fail
  go_ret
  exact ⟨rfl, rfl⟩
set_option maxHeartbeats 1000000 in
theorem isinf_any (X : Nat) (hX : X < 18446744073709551616) (h : xE X = 2047 → xF X = 0) (w : World) : Calls Tryz.prog 67 #[.float .f64 X, .int .i64 0] w fun r w' => r = .returned (.bool (decide (xE X = 2047))) ∧ w' = w := by
  have e := ord_max hX h
  obtain ⟨b, hb⟩ : ∃ b, b = decide (xE X = 2047) := ⟨_, rfl⟩
  rw [← hb] at e ⊢
  clear hb h
  go_enter Tryz.func67, Tryz.ntmps67
  go_wp2_with fail
  refine (abs_float X hX _).mono ?_
  rintro r w1 ⟨rfl, rfl⟩
  generalize X % 9223372036854775808 = Y at *
  go_wp2_with fail
  go_ret
  exact ⟨rfl, rfl⟩
set_option maxHeartbeats 1000000 in
theorem finite_true (X : Nat) (hX : X < 18446744073709551616) (h : xE X ≠ 2047) (w : World) : Calls Tryz.prog 121 #[.float .f64 X] w fun r w' => r = .returned (.bool true) ∧ w' = w := by
  have c1 := fun w => isnan_any X hX w
  have c2 := fun w => isinf_any X hX (fun e => absurd e h) w
  rw [decide_eq_false (fun e => h e.1)] at c1
  rw [decide_eq_false h] at c2
  have C1 := Lib.hid c1
  have C2 := Lib.hid c2
  clear c1 c2 h
  go_enter Tryz.func121, Tryz.ntmps121
  go_wp2_with fail
  refine (C1.out _).mono ?_
  rintro r w1 ⟨rfl, rfl⟩
  go_wp2_with fail
  refine (C2.out _).mono ?_
  rintro r w1 ⟨rfl, rfl⟩
  go_wp2_with fail
  go_ret
  exact ⟨rfl, rfl⟩
set_option maxHeartbeats 1000000 in
theorem finite_false (X : Nat) (hX : X < 18446744073709551616) (h : xE X = 2047) (w : World) : Calls Tryz.prog 121 #[.float .f64 X] w fun r w' => r = .returned (.bool false) ∧ w' = w := by
  by_cases hn : xF X = 0
  · have c1 := fun w => isnan_any X hX w
    have c2 := fun w => isinf_any X hX (fun e => hn) w
    rw [decide_eq_false (fun e => e.2 hn)] at c1
    rw [decide_eq_true h] at c2
    have C1 := Lib.hid c1
    have C2 := Lib.hid c2
    clear c1 c2 h hn
    go_enter Tryz.func121, Tryz.ntmps121
    go_wp2_with fail
    refine (C1.out _).mono ?_
    rintro r w1 ⟨rfl, rfl⟩
    go_wp2_with fail
    refine (C2.out _).mono ?_
    rintro r w1 ⟨rfl, rfl⟩
    go_wp2_with fail
    go_ret
    exact ⟨rfl, rfl⟩
  · have c1 := fun w => isnan_any X hX w
    rw [decide_eq_true ⟨h, hn⟩] at c1
    have C1 := Lib.hid c1
    clear c1 h hn
    go_enter Tryz.func121, Tryz.ntmps121
    go_wp2_with fail
    refine (C1.out _).mono ?_
    rintro r w1 ⟨rfl, rfl⟩
    go_wp2_with fail
    go_ret
    exact ⟨rfl, rfl⟩

/-- A call hands back an integer and an exponent. -/
def RetSp (w : World) (z k : Int) (e : Ending) (w' : World) : Prop := ∃ A, e = .returned (.tuple #[.agg #[.bool (sn z), .slice A (ln (ab z)) (ln (ab z))], .int .i64 k]) ∧ Nat32 w' A (ab z) ∧ Below w.heap.size w w'
theorem retSp_fin {w W : World} {z k : Int} {A : Option Addr} {R : Nat} {c : Bool} (hB : Hid (Below w.heap.size w W)) (h1 : Nat32 W A (ab z)) (hR : w.heap.size ≤ R) (r0 : W.cell? ⟨R, 0, none⟩ = some (.bool c)) :
    RetSp w z k (.returned (.tuple #[.agg #[.bool (sn z), .slice A (ln (ab z)) (ln (ab z))], .int .i64 k])) ((W.setCell ⟨R, 0, none⟩ (.bool (sn z))).setCell ⟨R, 1, none⟩ (.slice A (ln (ab z)) (ln (ab z)))) := by
  obtain ⟨B, e, h⟩ := retWhole_fin (A := A) hB h1 hR r0
  exact ⟨B, ret_and e, h⟩

set_option maxHeartbeats 4000000 in
theorem split_low (X : Nat) (hX : X < 18446744073709551616) (hE : xE X = 0) (w : World) :
    Calls Tryz.prog 122 #[.float .f64 X] w (RetSp w (zi (xS X) (xM X)) (xP X)) := by
  have g2 := f64bits
  have e1 := mant52 hX
  have e2 := mexp11 hX
  have e5 := sgn63 hX
  obtain ⟨M, hM⟩ : ∃ M, M = xM X := ⟨_, rfl⟩
  have e3 : xF X = M := by rw [hM]; unfold xM; rw [if_pos hE]
  rw [hE] at e2
  have e6 : max (0 : Int) 1 = 1 := rfl
  rw [e3] at e1
  have hP : xP X = -1074 := by unfold xP; rw [if_pos hE]; omega
  have HM : Hid (M < 18446744073709551616) := Lib.hid (by have := xM_lt X; omega)
  rw [← hM, hP]
  clear hM hP hE
  obtain ⟨S, hS⟩ : ∃ S, S = xS X := ⟨_, rfl⟩
  rw [← hS] at e5 ⊢
  clear hS
  go_enter Tryz.func122, Tryz.ntmps122
  go_wp2_with fail
  obtain ⟨W, hW⟩ : ∃ W : World, W = (w.alloc (.cells #[.bool false, .slice none 0 0] 28)) := ⟨_, rfl⟩
  have r0 : W.cell? ⟨w.heap.size, 0, none⟩ = some (.bool false) := by subst hW; go_simp
  have f0 : W.frozen? ⟨w.heap.size, 0, none⟩ = false := by subst hW; go_simp
  have r1 : W.cell? ⟨w.heap.size, 1, none⟩ = some (.slice none 0 0) := by subst hW; go_simp
  have f1 : W.frozen? ⟨w.heap.size, 1, none⟩ = false := by subst hW; go_simp
  have HW : Below w.heap.size w W := by subst hW; exact ((Below.refl w.heap.size w).alloc (Nat.le_refl _) _)
  have l0 : w.heap.size < W.heap.size := by subst hW; simp
  rw [← hW]
  clear hW
  replace HW := Lib.hid HW
  refine (natOf_any M HM.out _).mono ?_
  rintro e w1 ⟨A1, rfl, h1, hb1⟩
  replace r0 := keepc hb1 r0 l0
  replace f0 := keepf hb1 f0 l0
  replace r1 := keepc hb1 r1 l0
  replace f1 := keepf hb1 f1 l0
  replace l0 := Nat.lt_of_lt_of_le l0 hb1.size
  replace HW := Lib.hid (hstep HW hb1)
  clear hb1
  go_wp2_with fail
  refine (wholeOf_any S M A1 _ (by exact h1)).mono ?_
  rintro e w2 ⟨A2, rfl, h2, hb2⟩
  replace r0 := keepc hb2 r0 l0
  replace f0 := keepf hb2 f0 l0
  replace r1 := keepc hb2 r1 l0
  replace f1 := keepf hb2 f1 l0
  replace l0 := Nat.lt_of_lt_of_le l0 hb2.size
  replace h1 := h1.to hb2
  replace HW := Lib.hid (hstep HW hb2)
  clear hb2
  go_wp2_with fail
  exact bodyPost_ret (v := .tuple #[.agg #[.bool (sn (zi S M)), .slice A2 (ln (ab (zi S M))) (ln (ab (zi S M)))], .int .i64 (-1074)]) (by simp [results, Tryz.results122, go_sem, r0, r1, f0, f1]) rfl (retSp_fin HW h2 (by omega) r0)

set_option maxHeartbeats 4000000 in
theorem split_norm (X : Nat) (hX : X < 18446744073709551616) (h0 : xE X ≠ 0) (hE : xE X ≠ 2047) (w : World) :
    Calls Tryz.prog 122 #[.float .f64 X] w (RetSp w (zi (xS X) (xM X)) (xP X)) := by
  have g2 := f64bits
  have e1 := mant52 hX
  have e2 := mexp11 hX
  have e5 := sgn63 hX
  obtain ⟨M, hM⟩ : ∃ M, M = xM X := ⟨_, rfl⟩
  have e3 : bits .or .u64 (xF X : Int) 4503599627370496 = (M : Int) := by rw [or52 (xF_lt X), hM]; unfold xM; rw [if_neg h0]
  have hP : xP X = (xE X : Int) - 1075 := by unfold xP; rw [if_neg h0]
  have e4 : max (xE X : Int) 1 = (xE X : Int) := by omega
  have l0 : 0 < (xE X : Int) := by omega
  have l1 := xE_lt X
  obtain ⟨E, hE2⟩ : ∃ E, E = xE X := ⟨_, rfl⟩
  rw [← hE2] at e2 e4 hP l0 l1
  obtain ⟨F, hF2⟩ : ∃ F, F = xF X := ⟨_, rfl⟩
  rw [← hF2] at e1 e3
  clear hE2 hF2 h0
  have HM : Hid (M < 18446744073709551616) := Lib.hid (by have := xM_lt X; omega)
  rw [← hM, hP]
  clear hM hP hE
  obtain ⟨S, hS⟩ : ∃ S, S = xS X := ⟨_, rfl⟩
  rw [← hS] at e5 ⊢
  clear hS
  go_enter Tryz.func122, Tryz.ntmps122
  go_wp2_with fail
  obtain ⟨W, hW⟩ : ∃ W : World, W = (w.alloc (.cells #[.bool false, .slice none 0 0] 28)) := ⟨_, rfl⟩
  have r0 : W.cell? ⟨w.heap.size, 0, none⟩ = some (.bool false) := by subst hW; go_simp
  have f0 : W.frozen? ⟨w.heap.size, 0, none⟩ = false := by subst hW; go_simp
  have r1 : W.cell? ⟨w.heap.size, 1, none⟩ = some (.slice none 0 0) := by subst hW; go_simp
  have f1 : W.frozen? ⟨w.heap.size, 1, none⟩ = false := by subst hW; go_simp
  have HW : Below w.heap.size w W := by subst hW; exact ((Below.refl w.heap.size w).alloc (Nat.le_refl _) _)
  have l0 : w.heap.size < W.heap.size := by subst hW; simp
  rw [← hW]
  clear hW
  replace HW := Lib.hid HW
  refine (natOf_any M HM.out _).mono ?_
  rintro e w1 ⟨A1, rfl, h1, hb1⟩
  replace r0 := keepc hb1 r0 l0
  replace f0 := keepf hb1 f0 l0
  replace r1 := keepc hb1 r1 l0
  replace f1 := keepf hb1 f1 l0
  replace l0 := Nat.lt_of_lt_of_le l0 hb1.size
  replace HW := Lib.hid (hstep HW hb1)
  clear hb1
  go_wp2_with fail
  refine (wholeOf_any S M A1 _ (by exact h1)).mono ?_
  rintro e w2 ⟨A2, rfl, h2, hb2⟩
  replace r0 := keepc hb2 r0 l0
  replace f0 := keepf hb2 f0 l0
  replace r1 := keepc hb2 r1 l0
  replace f1 := keepf hb2 f1 l0
  replace l0 := Nat.lt_of_lt_of_le l0 hb2.size
  replace h1 := h1.to hb2
  replace HW := Lib.hid (hstep HW hb2)
  clear hb2
  go_wp2_with fail
  exact bodyPost_ret (v := .tuple #[.agg #[.bool (sn (zi S M)), .slice A2 (ln (ab (zi S M))) (ln (ab (zi S M)))], .int .i64 ((E : Int) - 1075)]) (by simp [results, Tryz.results122, go_sem, r0, r1, f0, f1]) rfl (retSp_fin HW h2 (by omega) r0)

/-- 'split(f)'. -/
theorem split_any (X : Nat) (hX : X < 18446744073709551616) (hE : xE X ≠ 2047) (w : World) : Calls Tryz.prog 122 #[.float .f64 X] w (RetSp w (zi (xS X) (xM X)) (xP X)) := by
  by_cases h0 : xE X = 0
  · exact split_low X hX h0 w
  · exact split_norm X hX h0 hE w
end Go.Proofs.YtgpmlhpgdalheaaGreat

namespace Go.Proofs.YtgpmlhpgdalheaaGreat
open Go.RowKit Pl Fl
set_option linter.unusedVariables false
set_option linter.unusedSimpArgs false
namespace Fl
open Ieee
theorem xS_neg {W : Nat} (h : W < 9223372036854775808) : xS (9223372036854775808 + W) = true ∧ xS W = false ∧ xE (9223372036854775808 + W) = xE W ∧ xF (9223372036854775808 + W) = xF W := by
  unfold xS xE xF
  exact ⟨decide_eq_true (by omega), decide_eq_false (by omega), by omega, by omega⟩
theorem xK_pos {W : Nat} (h : W < 9223372036854775808) : xK W = (xN W : Int) := by
  unfold xK; rw [(xS_neg h).2.1]; rfl
theorem xK_neg {W : Nat} (h : W < 9223372036854775808) : xK (9223372036854775808 + W) = -(xN W : Int) := by
  obtain ⟨h1, h2, h3, h4⟩ := xS_neg h
  unfold xK; rw [h1]
  have e : xN (9223372036854775808 + W) = xN W := by unfold xN xM xP; rw [h3, h4]
  rw [e]; rfl
theorem xE_of {W : Nat} (h : W < 9223372036854775808) : (xE W = 2047 → 9218868437227405312 ≤ W) ∧ (W < 9218868437227405312 → xE W ≠ 2047) ∧ (W = 9218868437227405312 → xE W = 2047 ∧ xF W = 0) := by
  unfold xE xF; omega
/-- What is asked of the words below (L) and above (H) of a/d. -/
structure Dir (L H : Nat) (a : Int) (d k : Nat) : Prop where
  l1 : L < 18446744073709551616
  h1 : H < 18446744073709551616
  l2 : xE L = 2047 → L = 18442240474082181120
  h2 : xE H = 2047 → H = 9218868437227405312
  l3 : xE L ≠ 2047 → xK L * (d : Int) ≤ a * ((2 ^ k : Nat) : Int)
  h3 : xE H ≠ 2047 → a * ((2 ^ k : Nat) : Int) ≤ xK H * (d : Int)
  -- equal, or neighbours
  e : (L = H ∧ xE L ≠ 2047 ∧ xK L * (d : Int) = a * ((2 ^ k : Nat) : Int)) ∨
    (xK L ≠ xK H ∧ ((0 < L ∧ L < 9218868437227405312 ∧ H = L + 1) ∨ (L = 0 ∧ H = 1) ∨ (∃ D, D < 9218868437227405312 ∧ L = 9223372036854775808 + (D + 1) ∧ H = if D = 0 then 0 else 9223372036854775808 + D)))
theorem xN_big {X : Nat} (h : X ≤ 9218868437227405312) (hX : X < 9218868437227405312 → False) {kH : Nat} (kH_eq : kH = 2045) : xN X = 9007199254740992 * 2 ^ kH := by
  have e : X = 9218868437227405312 := by have := Nat.not_lt.1 hX; omega
  have := (xE_of (W := X) (by omega)).2.2 e
  exact xN_inf kH_eq this.1 this.2
theorem xN_lt {D U d P : Nat} (hD : D < 9218868437227405312) (hU : U ≤ 9218868437227405312) (h1 : xN D * d < P) (h2 : U < 9218868437227405312 → P < xN U * d) : xN D < xN U := by
  by_cases h : U < 9218868437227405312
  · have h3 := Nat.lt_trans h1 (h2 h)
    exact Nat.lt_of_mul_lt_mul_right h3
  · obtain ⟨kH, hk⟩ : ∃ k : Nat, k = 2045 := ⟨_, rfl⟩
    rw [xN_big hU h hk]
    exact xN_fin hk ((xE_of (by omega)).2.1 hD)
theorem dir_any {k : Nat} (hk : k = 1074) (a : Int) {d : Nat} (hd : d ≠ 0) : Dir (srnd 53 (-1074) 1024 a d 0) (srnd 53 (-1074) 1024 a d 1) a d k := by
  have f0 : xE 0 ≠ 2047 := by decide
  have k0 : xK 0 = 0 := by unfold xK xN; rw [show xM 0 = 0 from rfl, Nat.zero_mul, zi_zero]
  by_cases h0 : a = 0
  · rw [show srnd 53 (-1074) 1024 a d 0 = 0 from if_pos h0, show srnd 53 (-1074) 1024 a d 1 = 0 from if_pos h0]
    exact ⟨by decide, by decide, fun h => absurd h f0, fun h => absurd h f0, fun _ => by rw [k0, h0, Int.zero_mul, Int.zero_mul]; exact Int.le_refl _, fun _ => by rw [k0, h0, Int.zero_mul, Int.zero_mul]; exact Int.le_refl _, .inl ⟨rfl, f0, by rw [k0, h0, Int.zero_mul, Int.zero_mul]⟩⟩
  · have hA : ab a ≠ 0 := by unfold ab; omega
    obtain ⟨D, U, d1, d2, hD, hU, m1, m2⟩ := dir_mag hk hA hd
    have s0 : srnd 53 (-1074) 1024 a d 0 = sf (sn a) (prnd 53 (-1074) 1024 (ab a) d (if sn a = true then 1 else 0)) := by
      unfold srnd; rw [if_neg h0]; rfl
    have s1 : srnd 53 (-1074) 1024 a d 1 = sf (sn a) (prnd 53 (-1074) 1024 (ab a) d (if sn a = true then 0 else 1)) := by
      unfold srnd; rw [if_neg h0]; rfl
    have M1 := Int.ofNat_le.2 m1
    have P0 : 0 < ab a * 2 ^ k := Nat.mul_pos (by omega) (Nat.pow_pos (by omega))
    have hUinf : U < 9218868437227405312 ∨ U = 9218868437227405312 := by omega
    have eD := (xE_of (W := D) (by omega)).2.1 hD
    cases hs : sn a
    · rw [hs] at s0 s1
      rw [if_neg (by decide), d1, sf_false] at s0
      rw [if_neg (by decide), d2, sf_false] at s1
      rw [s0, s1]
      have ha : a = ((ab a : Nat) : Int) := by unfold sn at hs; unfold ab; have := of_decide_eq_false hs; omega
      have hP : a * ((2 ^ k : Nat) : Int) = ((ab a * 2 ^ k : Nat) : Int) := by rw [Int.natCast_mul, ← ha]
      rw [show (2 : Nat) ^ k = 2 ^ k from rfl] at *
      have kD := xK_pos (W := D) (by omega)
      have kU := xK_pos (W := U) (by omega)
      refine ⟨by omega, by omega, fun h => absurd h eD, fun h => ?_, fun _ => ?_, fun h => ?_, ?_⟩
      · have := (xE_of (W := U) (by omega)).1 h; omega
      · rw [hP, kD, ← Int.natCast_mul]; exact Int.ofNat_le.2 m1
      · rw [hP, kU, ← Int.natCast_mul]
        refine Int.ofNat_le.2 ?_
        rcases m2 with ⟨e, m⟩ | ⟨e, m, m3⟩
        · rw [e]; exact Nat.le_of_eq m.symm
        · rcases hUinf with h4 | h4
          · exact Nat.le_of_lt (m3 h4)
          · exact absurd ((xE_of (W := U) (by omega)).2.2 h4).1 h
      · rcases m2 with ⟨e, m⟩ | ⟨e, m, m3⟩
        · exact .inl ⟨e.symm, eD, by rw [hP, kD, ← Int.natCast_mul, m]⟩
        · refine .inr ⟨?_, ?_⟩
          · have := xN_lt hD hU m m3
            rw [kD, kU]; omega
          · by_cases hz : D = 0
            · exact .inr (.inl ⟨hz, by omega⟩)
            · exact .inl ⟨by omega, hD, e⟩
    · rw [hs] at s0 s1
      have hUne : U ≠ 0 := by
        intro e
        have hz : D = 0 := by rcases m2 with ⟨q, _⟩ | ⟨q, _⟩ <;> omega
        rcases m2 with ⟨q, m⟩ | ⟨q, m, _⟩
        · rw [hz, show xN 0 = 0 from by unfold xN; rw [show xM 0 = 0 from rfl, Nat.zero_mul], Nat.zero_mul] at m
          rw [← m] at P0; exact absurd P0 (by decide)
        · omega
      rw [if_pos rfl, d2, sf_true hUne, neg_word (by omega)] at s0
      have hH : srnd 53 (-1074) 1024 a d 1 = if D = 0 then 0 else 9223372036854775808 + D := by
        rw [s1, if_pos rfl, d1]
        by_cases hz : D = 0
        · rw [if_pos hz, hz]; rfl
        · rw [if_neg hz, sf_true hz, neg_word (by omega)]
      rw [s0, hH]
      clear s0 s1 hH
      have ha : a = -((ab a : Nat) : Int) := by unfold sn at hs; unfold ab; have := of_decide_eq_true hs; omega
      have hP : a * ((2 ^ k : Nat) : Int) = -((ab a * 2 ^ k : Nat) : Int) := by rw [Int.natCast_mul, ← Int.neg_mul, ← ha]
      have kU := xK_neg (W := U) (by omega)
      have eU := (xS_neg (W := U) (by omega)).2.2.1
      have kH : xK (if D = 0 then 0 else 9223372036854775808 + D) = -(xN D : Int) := by
        by_cases hz : D = 0
        · rw [if_pos hz, k0, hz, show xN 0 = 0 from by unfold xN; rw [show xM 0 = 0 from rfl, Nat.zero_mul]]; rfl
        · rw [if_neg hz, xK_neg (by omega)]
      have eH : xE (if D = 0 then 0 else 9223372036854775808 + D) ≠ 2047 := by
        by_cases hz : D = 0
        · rw [if_pos hz]; exact f0
        · rw [if_neg hz, (xS_neg (W := D) (by omega)).2.2.1]; exact eD
      have hHlt : (if D = 0 then 0 else 9223372036854775808 + D) < 18446744073709551616 := by split <;> omega
      refine ⟨by omega, hHlt, fun h => ?_, fun h => absurd h eH, fun h => ?_, fun h => ?_, ?_⟩
      · rw [eU] at h
        have := (xE_of (W := U) (by omega)).1 h; omega
      · rw [hP, kU, Int.neg_mul, ← Int.natCast_mul]
        refine Int.neg_le_neg (Int.ofNat_le.2 ?_)
        rcases m2 with ⟨e, m⟩ | ⟨e, m, m3⟩
        · rw [e]; exact Nat.le_of_eq m.symm
        · rcases hUinf with h4 | h4
          · exact Nat.le_of_lt (m3 h4)
          · rw [eU] at h; exact absurd ((xE_of (W := U) (by omega)).2.2 h4).1 h
      · rw [hP, kH, Int.neg_mul, ← Int.natCast_mul]
        exact Int.neg_le_neg (Int.ofNat_le.2 m1)
      · rcases m2 with ⟨e, m⟩ | ⟨e, m, m3⟩
        · have hDne : D ≠ 0 := by omega
          refine .inl ⟨by rw [if_neg hDne, e], by rw [eU, e]; exact eD, by rw [hP, kU, e, Int.neg_mul, ← Int.natCast_mul, m]⟩
        · refine .inr ⟨?_, .inr (.inr ⟨D, hD, by rw [e], rfl⟩)⟩
          have := xN_lt hD hU m m3
          rw [kU, kH]; omega
theorem xK_rat (X : Nat) {k : Nat} (hk : k = 1074) : ((xK X : Int) : Rat) = xV X * ((2 ^ k : Nat) : Rat) := by
  have h := x_scale X (k := k) (by have := xP_lo X; omega)
  rw [← h]; unfold xK xN; rw [hk]; rfl
theorem rat_two (k : Nat) : (0 : Rat) < ((2 ^ k : Nat) : Rat) := by
  have : 0 < 2 ^ k := Nat.pow_pos (by omega)
  exact_mod_cast this
theorem k_sides (X : Nat) (q : Cx) {k : Nat} (hk : k = 1074) : ((xK X * (nd q : Int) : Int) : Rat) = xV X * (((2 ^ k : Nat) : Rat) * (nd q : Rat)) ∧ ((na q * ((2 ^ k : Nat) : Int) : Int) : Rat) = q.re * (((2 ^ k : Nat) : Rat) * (nd q : Rat)) ∧ (0 : Rat) < ((2 ^ k : Nat) : Rat) * (nd q : Rat) := by
  have p2 : (0 : Rat) < (nd q : Rat) := by have := nd_pos q; exact_mod_cast this
  refine ⟨?_, ?_, Rat.mul_pos (rat_two k) p2⟩
  · rw [Rat.intCast_mul, xK_rat X hk, Rat.mul_assoc]; rfl
  · rw [Rat.intCast_mul, na_eq, Rat.mul_comm ((2 ^ k : Nat) : Rat), Rat.mul_assoc]; rfl
theorem k_le {X : Nat} {q : Cx} {k : Nat} (hk : k = 1074) (h : xK X * (nd q : Int) ≤ na q * ((2 ^ k : Nat) : Int)) : xV X ≤ q.re := by
  obtain ⟨e1, e2, p⟩ := k_sides X q hk
  have h1 := Rat.intCast_le_intCast.2 h
  rw [e1, e2] at h1
  exact Rat.le_of_mul_le_mul_right h1 p
theorem k_ge {X : Nat} {q : Cx} {k : Nat} (hk : k = 1074) (h : na q * ((2 ^ k : Nat) : Int) ≤ xK X * (nd q : Int)) : q.re ≤ xV X := by
  obtain ⟨e1, e2, p⟩ := k_sides X q hk
  have h1 := Rat.intCast_le_intCast.2 h
  rw [e1, e2] at h1
  exact Rat.le_of_mul_le_mul_right h1 p
theorem k_eq {X : Nat} {q : Cx} {k : Nat} (hk : k = 1074) (h : xK X * (nd q : Int) = na q * ((2 ^ k : Nat) : Int)) : xV X = q.re :=
  Rat.le_antisymm (k_le hk (Int.le_of_eq h)) (k_ge hk (Int.le_of_eq h.symm))
/-- What the law compares. -/
theorem xV_zero : xV 0 = 0 := by
  unfold xV; rw [show xM 0 = 0 from rfl, Nat.zero_mul, zi_zero, Rat.div_def]; simp
theorem dir_le {X : Nat} {q : Cx} (h : xV X ≤ q.re) : decide (0 < cmpC (cx X 0) q.reOf) = false := by
  rw [cmpC_rat]
  unfold cmpR cx Cx.reOf
  simp only [xV_zero]
  grind
theorem dir_ge {X : Nat} {q : Cx} (h : q.re ≤ xV X) : decide (cmpC (cx X 0) q.reOf < 0) = false := by
  rw [cmpC_rat]
  unfold cmpR cx Cx.reOf
  simp only [xV_zero]
  grind
theorem dir_eq {X : Nat} {q : Cx} (h : xV X = q.re) : decide (cx X 0 = q.reOf) = true :=
  decide_eq_true (Cx.ext' h xV_zero)
end Fl
end Go.Proofs.YtgpmlhpgdalheaaGreat

namespace Go.Proofs.YtgpmlhpgdalheaaGreat
open Go.RowKit Pl Fl
set_option linter.unusedVariables false
set_option linter.unusedSimpArgs false
namespace Fl
open Ieee
theorem xN_ne {W : Nat} (h : W < 9223372036854775808) (h0 : W ≠ 0) : 0 < xN W := by
  unfold xN
  refine Nat.mul_pos ?_ (Nat.pow_pos (by omega))
  unfold xM xE xF
  split <;> omega
theorem inf_parts : xE 9218868437227405312 = 2047 ∧ xF 9218868437227405312 = 0 := by decide
theorem k_zero : xK 0 = 0 := by unfold xK xN; rw [show xM 0 = 0 from rfl, Nat.zero_mul, zi_zero]
theorem ord_lt {X Y : Nat} (hX : X < 18446744073709551616) (hY : Y < 18446744073709551616) (h : xE X = 2047 → xF X = 0) (k : xE Y = 2047 → xF Y = 0) (hl : xK X < xK Y) : (FloatKind.f64.format.order X Y == some Ordering.eq) = false ∧ (FloatKind.f64.format.order Y X == some Ordering.gt) = true ∧ (FloatKind.f64.format.order X Y == some Ordering.gt) = false ∧ (FloatKind.f64.format.order Y X == some Ordering.eq) = false := by
  show (double.order X Y == some Ordering.eq) = false ∧ (double.order Y X == some Ordering.gt) = true ∧ (double.order X Y == some Ordering.gt) = false ∧ (double.order Y X == some Ordering.eq) = false
  rw [order_key hX hY h k, order_key hY hX k h, Int.compare_eq_lt.2 hl, Int.compare_eq_gt.2 hl]
  exact ⟨rfl, rfl, rfl, rfl⟩
theorem ord_eqk {X Y : Nat} (hX : X < 18446744073709551616) (hY : Y < 18446744073709551616) (h : xE X = 2047 → xF X = 0) (k : xE Y = 2047 → xF Y = 0) (hl : xK X = xK Y) : (FloatKind.f64.format.order X Y == some Ordering.eq) = true := by
  show (double.order X Y == some Ordering.eq) = true
  rw [order_key hX hY h k, Int.compare_eq_eq.2 hl]; rfl
theorem ord_nek {X Y : Nat} (hX : X < 18446744073709551616) (hY : Y < 18446744073709551616) (h : xE X = 2047 → xF X = 0) (k : xE Y = 2047 → xF Y = 0) (hl : xK X ≠ xK Y) : (FloatKind.f64.format.order X Y == some Ordering.eq) = false := by
  show (double.order X Y == some Ordering.eq) = false
  rw [order_key hX hY h k, beq_eq_false_iff_ne]
  intro e
  injection e with e
  exact hl (Int.compare_eq_eq.1 e)
theorem k_inf {W : Nat} (hW : W < 9218868437227405312) : xK W < xK 9218868437227405312 ∧ -(xN (W + 1) : Int) < xK 9218868437227405312 := by
  obtain ⟨kH, hk⟩ : ∃ k : Nat, k = 2045 := ⟨_, rfl⟩
  have e1 := xN_inf hk inf_parts.1 inf_parts.2
  have e2 := xN_fin hk ((xE_of (W := W) (by omega)).2.1 hW)
  have p : 0 < 9007199254740992 * 2 ^ kH := Nat.mul_pos (by omega) (Nat.pow_pos (by omega))
  rw [xK_pos (by omega), xK_pos (by omega), e1]
  generalize 9007199254740992 * 2 ^ kH = P at *
  generalize xN W = n at *
  generalize xN (W + 1) = m at *
  omega
end Fl
set_option maxHeartbeats 1000000 in
theorem isinf_minus (w : World) : Calls Tryz.prog 67 #[.float .f64 18442240474082181120, .int .i64 (-1)] w fun r w' => r = .returned (.bool true) ∧ w' = w := by
  have e : (FloatKind.f64.format.order 9218868437227405312 9218868437227405311 == some Ordering.gt) = true := by kernel_rfl
  have n : Op.negFloat .f64 18442240474082181120 = 9218868437227405312 := by kernel_rfl
  have g := negf_run
  go_enter Tryz.func67, Tryz.ntmps67
  go_wp2_with fail
  go_ret
  exact ⟨rfl, rfl⟩
set_option maxHeartbeats 1000000 in
theorem isinf_plus (w : World) : Calls Tryz.prog 67 #[.float .f64 9218868437227405312, .int .i64 1] w fun r w' => r = .returned (.bool true) ∧ w' = w := by
  have e : (FloatKind.f64.format.order 9218868437227405312 9218868437227405311 == some Ordering.gt) = true := by kernel_rfl
  go_enter Tryz.func67, Tryz.ntmps67
  go_wp2_with fail
  go_ret
  exact ⟨rfl, rfl⟩
set_option maxHeartbeats 1000000 in
theorem copysign_one (w : World) : Calls Tryz.prog 130 #[.float .f64 1, .float .f64 9218868437227405312] w fun r w' => r = .returned (.float .f64 1) ∧ w' = w := by
  have a1 : ∀ w, (callFunc 92 #[.float .f64 1]).run Tryz.prog w = .ok (.value (.int .u64 1)) w := fun w => f64bits 1 w
  have a2 : ∀ w, (callFunc 92 #[.float .f64 9218868437227405312]).run Tryz.prog w = .ok (.value (.int .u64 9218868437227405312)) w := fun w => f64bits 9218868437227405312 w
  have a3 : ∀ w, (callFunc 60 #[.int .u64 1]).run Tryz.prog w = .ok (.value (.float .f64 1)) w := fun w => f64from 1 w
  have b1 : bits .andNot .u64 1 9223372036854775808 = 1 := by kernel_rfl
  have b2 : bits .and .u64 9218868437227405312 9223372036854775808 = 0 := by kernel_rfl
  have b3 : bits .or .u64 1 0 = 1 := by kernel_rfl
  go_enter Tryz.func130, Tryz.ntmps130
  go_wp2_with fail
  go_ret
  exact ⟨rfl, rfl⟩
theorem nan_not {X : Nat} (hX : X < 18446744073709551616) (h : xE X = 2047 → xF X = 0) (w : World) : Calls Tryz.prog 128 #[.float .f64 X] w fun r w' => r = .returned (.bool false) ∧ w' = w := by
  have c := isnan_any X hX w
  rwa [decide_eq_false (fun e => e.2 (h e.1))] at c
set_option maxHeartbeats 2000000 in
theorem next_zero (w : World) : Calls Tryz.prog 68 #[.float .f64 0, .float .f64 9218868437227405312] w fun r w' => r = .returned (.float .f64 1) ∧ w' = w := by
  have c1 := Lib.hid (fun w => nan_not (X := 0) (by omega) (fun e => rfl) w)
  have c2 := Lib.hid (fun w => nan_not (X := 9218868437227405312) (by omega) (fun e => inf_parts.2) w)
  have e1 : (FloatKind.f64.format.order 0 9218868437227405312 == some Ordering.eq) = false := by kernel_rfl
  have e2 : (FloatKind.f64.format.order 0 0 == some Ordering.eq) = true := by kernel_rfl
  have a3 : ∀ w, (callFunc 60 #[.int .u64 1]).run Tryz.prog w = .ok (.value (.float .f64 1)) w := fun w => f64from 1 w
  go_enter Tryz.func68, Tryz.ntmps68
  go_wp2_with fail
  refine (c1.out _).mono ?_
  rintro r w1 ⟨rfl, rfl⟩
  go_wp2_with fail
  refine (c2.out _).mono ?_
  rintro r w1 ⟨rfl, rfl⟩
  go_wp2_with fail
  refine (copysign_one _).mono ?_
  rintro r w1 ⟨rfl, rfl⟩
  go_wp2_with fail
  go_ret
  exact ⟨rfl, rfl⟩
set_option maxHeartbeats 2000000 in
theorem next_word (L N : Nat) (p : Bool) (hL : L < 18446744073709551616) (hn : xE L = 2047 → xF L = 0) (e1 : (FloatKind.f64.format.order L 9218868437227405312 == some Ordering.eq) = false) (e2 : (FloatKind.f64.format.order L 0 == some Ordering.eq) = false) (e3 : (FloatKind.f64.format.order 9218868437227405312 L == some Ordering.gt) = true) (e4 : (FloatKind.f64.format.order L 0 == some Ordering.gt) = p)
    (hp : p = true → N = L + 1) (hm : p = false → L = N + 1) (hNb : N < 18446744073709551616) (w : World) : Calls Tryz.prog 68 #[.float .f64 L, .float .f64 9218868437227405312] w fun r w' => r = .returned (.float .f64 N) ∧ w' = w := by
  have c1 := Lib.hid (fun w => nan_not hL hn w)
  have c2 := Lib.hid (fun w => nan_not (X := 9218868437227405312) (by omega) (fun e => inf_parts.2) w)
  have a3 : ∀ w, (callFunc 60 #[.int .u64 (N : Nat)]).run Tryz.prog w = .ok (.value (.float .f64 N)) w := fun w => f64from N w
  have g2 := f64bits
  cases p
  · have h5 : (L : Int) - 1 = (N : Int) := by have := hm rfl; omega
    clear hp hm hn
    go_enter Tryz.func68, Tryz.ntmps68
    go_wp2_with fail
    refine (c1.out _).mono ?_
    rintro r w1 ⟨rfl, rfl⟩
    go_wp2_with fail
    refine (c2.out _).mono ?_
    rintro r w1 ⟨rfl, rfl⟩
    go_wp2_with fail
    go_ret
    exact ⟨rfl, rfl⟩
  · have h5 : (L : Int) + 1 = (N : Int) := by have := hp rfl; omega
    clear hp hm hn
    go_enter Tryz.func68, Tryz.ntmps68
    go_wp2_with fail
    refine (c1.out _).mono ?_
    rintro r w1 ⟨rfl, rfl⟩
    go_wp2_with fail
    refine (c2.out _).mono ?_
    rintro r w1 ⟨rfl, rfl⟩
    go_wp2_with fail
    go_ret
    exact ⟨rfl, rfl⟩
/-- The neighbour above the word below is the word above. -/
theorem next_any {L H : Nat} (h : (0 < L ∧ L < 9218868437227405312 ∧ H = L + 1) ∨ (L = 0 ∧ H = 1) ∨ (∃ D, D < 9218868437227405312 ∧ L = 9223372036854775808 + (D + 1) ∧ H = if D = 0 then 0 else 9223372036854775808 + D)) :
    ∃ X, (∀ w, Calls Tryz.prog 68 #[.float .f64 L, .float .f64 9218868437227405312] w fun r w' => r = .returned (.float .f64 X) ∧ w' = w) ∧ (FloatKind.f64.format.order X H == some Ordering.eq) = true := by
  have i1 : xE 9218868437227405312 = 2047 → xF 9218868437227405312 = 0 := fun _ => inf_parts.2
  have z1 : xE 0 = 2047 → xF 0 = 0 := fun _ => rfl
  rcases h with ⟨h0, h1, hH⟩ | ⟨h0, hH⟩ | ⟨D, hD, hL, hH⟩
  · have n1 : xE L = 2047 → xF L = 0 := fun e => absurd e ((xE_of (W := L) (by omega)).2.1 h1)
    have o1 := ord_lt (X := L) (Y := 9218868437227405312) (by omega) (by omega) n1 i1 (k_inf h1).1
    have o2 := ord_lt (X := 0) (Y := L) (by omega) (by omega) z1 n1 (by rw [k_zero, xK_pos (by omega)]; have := xN_ne (W := L) (by omega) (by omega); omega)
    have n2 : xE (L + 1) = 2047 → xF (L + 1) = 0 := fun e => by
      have := (xE_of (W := L + 1) (by omega)).1 e
      exact ((xE_of (W := L + 1) (by omega)).2.2 (by omega)).2
    refine ⟨L + 1, fun w => next_word L (L + 1) true (by omega) n1 o1.1 o2.2.2.2 o1.2.1 o2.2.1 (fun _ => rfl) (fun e => by cases e) (by omega) w, ?_⟩
    rw [hH]
    exact ord_eqk (by omega) (by omega) n2 n2 rfl
  · rw [h0, hH]
    exact ⟨1, next_zero, by kernel_rfl⟩
  · have n1 : xE L = 2047 → xF L = 0 := fun e => by
      obtain ⟨_, _, q3, q4⟩ := xS_neg (W := D + 1) (by omega)
      rw [hL] at e ⊢
      rw [q3] at e; rw [q4]
      have := (xE_of (W := D + 1) (by omega)).1 e
      exact ((xE_of (W := D + 1) (by omega)).2.2 (by omega)).2
    have kL : xK L = -(xN (D + 1) : Int) := by rw [hL]; exact xK_neg (by omega)
    have o1 := ord_lt (X := L) (Y := 9218868437227405312) (by omega) (by omega) n1 i1 (by rw [kL]; exact (k_inf hD).2)
    have o2 := ord_lt (X := L) (Y := 0) (by omega) (by omega) n1 z1 (by rw [k_zero, kL]; have := xN_ne (W := D + 1) (by omega) (by omega); omega)
    have nD : xE D ≠ 2047 := (xE_of (W := D) (by omega)).2.1 hD
    have nX : xE (9223372036854775808 + D) = 2047 → xF (9223372036854775808 + D) = 0 := fun e => by
      rw [(xS_neg (W := D) (by omega)).2.2.1] at e; exact absurd e nD
    refine ⟨9223372036854775808 + D, fun w => next_word L (9223372036854775808 + D) false (by omega) n1 o1.1 o2.1 o1.2.1 o2.2.2.1 (fun e => by cases e) (fun _ => by omega) (by omega) w, ?_⟩
    rw [hH]
    by_cases hz : D = 0
    · rw [if_pos hz, hz]; kernel_rfl
    · rw [if_neg hz]
      exact ord_eqk (by omega) (by omega) nX nX rfl
end Go.Proofs.YtgpmlhpgdalheaaGreat

namespace Go.Proofs.YtgpmlhpgdalheaaGreat
open Go.RowKit Pl Fl
set_option linter.unusedVariables false
set_option linter.unusedSimpArgs false

theorem zi_scale (s : Bool) (m c : Nat) : zi (sn (zi s m)) (ab (zi s m) * c) = zi s (m * c) := by
  by_cases h : m = 0
  · subst h; rw [zi_zero, Nat.zero_mul, zi_zero]; show zi _ (0 * c) = 0; rw [Nat.zero_mul, zi_zero]
  · rw [zi_sn s h, zi_ab]
theorem shl_nm (x n L : Nat) (hL : L = x * 2 ^ n) (A : Option Addr) (w : World) (hx : Nat32 w A x) (hbx : ln x ≤ 1000) (hn : n ≤ 10000) :
    Calls Tryz.prog 114 #[.slice A (ln x) (ln x), .int .i64 (n : Nat)] w (RetNat w L) := by
  subst hL; exact shl_any x n A w hx (by omega) (by omega)
theorem shl_one2 (k U : Nat) (hU : U = 2 ^ k) (B : Option Addr) (w : World) (hy : Nat32 w B 1) (hk : k ≤ 10000) :
    Calls Tryz.prog 114 #[.slice B 1 1, .int .i64 (k : Nat)] w (RetNat w U) := by
  have h := shl_any 1 k B w hy (by rw [ln_one]; omega) (by omega)
  rw [ln_one, Nat.one_mul, ← hU] at h
  exact h
theorem wholeOf_nm (s : Bool) (n : Nat) (z : Int) (hz : zi s n = z) (A : Option Addr) (w : World) (h : Nat32 w A n) :
    Calls Tryz.prog 123 #[.bool s, .slice A (ln n) (ln n)] w (RetWhole w z) := by
  subst hz; exact wholeOf_any s n A w h
set_option maxHeartbeats 4000000 in
theorem complex_bad1 (X Y : Nat) (hX : X < 18446744073709551616) (hY : Y < 18446744073709551616) (hE : xE X = 2047) (w : World) :
    Calls Tryz.prog 61 #[.complex .f64 X Y] w (RetNumE w 1 Cx.zero) := by
  have C0 := Lib.hid (fun w => finite_false X hX hE w)
  clear hX hY hE
  go_enter Tryz.func61, Tryz.ntmps61
  go_wp2_with fail
  obtain ⟨W, hW⟩ : ∃ W : World, W = (w.alloc (.cells #[.bool false, .slice none 0 0, .bool false, .slice none 0 0, .slice none 0 0] 30)) := ⟨_, rfl⟩
  have r0 : W.cell? ⟨w.heap.size, 0, none⟩ = some (.bool false) := by subst hW; go_simp
  have f0 : W.frozen? ⟨w.heap.size, 0, none⟩ = false := by subst hW; go_simp
  have r1 : W.cell? ⟨w.heap.size, 1, none⟩ = some (.slice none 0 0) := by subst hW; go_simp
  have f1 : W.frozen? ⟨w.heap.size, 1, none⟩ = false := by subst hW; go_simp
  have r2 : W.cell? ⟨w.heap.size, 2, none⟩ = some (.bool false) := by subst hW; go_simp
  have f2 : W.frozen? ⟨w.heap.size, 2, none⟩ = false := by subst hW; go_simp
  have r3 : W.cell? ⟨w.heap.size, 3, none⟩ = some (.slice none 0 0) := by subst hW; go_simp
  have f3 : W.frozen? ⟨w.heap.size, 3, none⟩ = false := by subst hW; go_simp
  have r4 : W.cell? ⟨w.heap.size, 4, none⟩ = some (.slice none 0 0) := by subst hW; go_simp
  have f4 : W.frozen? ⟨w.heap.size, 4, none⟩ = false := by subst hW; go_simp
  have HW : Below w.heap.size w W := by subst hW; exact ((Below.refl w.heap.size w).alloc (Nat.le_refl _) _)
  have l0 : w.heap.size < W.heap.size := by subst hW; simp
  rw [← hW]
  clear hW
  replace HW := Lib.hid HW
  refine (C0.out _).mono ?_
  rintro e w01 ⟨rfl, hw⟩
  rw [hw]
  clear hw w01
  go_wp2_with fail
  refine bodyPost_ret (v := .tuple #[.agg #[.bool false, .slice none 0 0, .bool false, .slice none 0 0, .slice none 0 0], .int .i64 1]) (by simp [results, Tryz.results61, go_sem, r0, r1, r2, r3, r4, f0, f1, f2, f3, f4]) rfl ?_
  obtain ⟨e1, e2, e3⟩ := zero_form
  have h := retNumE_fin (k := 1) (q := Cx.zero) (A1 := none) (A2 := none) (A3 := none) HW ⟨by rw [e1]; exact fun e => absurd rfl e, by rw [e2]; exact fun e => absurd rfl e, by rw [e3]; exact fun e => absurd rfl e⟩ (by omega) r0
  rw [e1, e2, e3, sn_zero, show ab 0 = 0 from rfl, ln_zero] at h
  exact h

set_option maxHeartbeats 4000000 in
theorem complex_bad2 (X Y : Nat) (hX : X < 18446744073709551616) (hY : Y < 18446744073709551616) (hE : xE X ≠ 2047) (hF : xE Y = 2047) (w : World) :
    Calls Tryz.prog 61 #[.complex .f64 X Y] w (RetNumE w 1 Cx.zero) := by
  have C0 := Lib.hid (fun w => finite_true X hX hE w)
  have C1 := Lib.hid (fun w => finite_false Y hY hF w)
  clear hX hY hE hF
  go_enter Tryz.func61, Tryz.ntmps61
  go_wp2_with fail
  obtain ⟨W, hW⟩ : ∃ W : World, W = (w.alloc (.cells #[.bool false, .slice none 0 0, .bool false, .slice none 0 0, .slice none 0 0] 30)) := ⟨_, rfl⟩
  have r0 : W.cell? ⟨w.heap.size, 0, none⟩ = some (.bool false) := by subst hW; go_simp
  have f0 : W.frozen? ⟨w.heap.size, 0, none⟩ = false := by subst hW; go_simp
  have r1 : W.cell? ⟨w.heap.size, 1, none⟩ = some (.slice none 0 0) := by subst hW; go_simp
  have f1 : W.frozen? ⟨w.heap.size, 1, none⟩ = false := by subst hW; go_simp
  have r2 : W.cell? ⟨w.heap.size, 2, none⟩ = some (.bool false) := by subst hW; go_simp
  have f2 : W.frozen? ⟨w.heap.size, 2, none⟩ = false := by subst hW; go_simp
  have r3 : W.cell? ⟨w.heap.size, 3, none⟩ = some (.slice none 0 0) := by subst hW; go_simp
  have f3 : W.frozen? ⟨w.heap.size, 3, none⟩ = false := by subst hW; go_simp
  have r4 : W.cell? ⟨w.heap.size, 4, none⟩ = some (.slice none 0 0) := by subst hW; go_simp
  have f4 : W.frozen? ⟨w.heap.size, 4, none⟩ = false := by subst hW; go_simp
  have HW : Below w.heap.size w W := by subst hW; exact ((Below.refl w.heap.size w).alloc (Nat.le_refl _) _)
  have l0 : w.heap.size < W.heap.size := by subst hW; simp
  rw [← hW]
  clear hW
  replace HW := Lib.hid HW
  refine (C0.out _).mono ?_
  rintro e w01 ⟨rfl, hw⟩
  rw [hw]
  clear hw w01
  go_wp2_with fail
  refine (C1.out _).mono ?_
  rintro e w01 ⟨rfl, hw⟩
  rw [hw]
  clear hw w01
  go_wp2_with fail
  refine bodyPost_ret (v := .tuple #[.agg #[.bool false, .slice none 0 0, .bool false, .slice none 0 0, .slice none 0 0], .int .i64 1]) (by simp [results, Tryz.results61, go_sem, r0, r1, r2, r3, r4, f0, f1, f2, f3, f4]) rfl ?_
  obtain ⟨e1, e2, e3⟩ := zero_form
  have h := retNumE_fin (k := 1) (q := Cx.zero) (A1 := none) (A2 := none) (A3 := none) HW ⟨by rw [e1]; exact fun e => absurd rfl e, by rw [e2]; exact fun e => absurd rfl e, by rw [e3]; exact fun e => absurd rfl e⟩ (by omega) r0
  rw [e1, e2, e3, sn_zero, show ab 0 = 0 from rfl, ln_zero] at h
  exact h

set_option maxRecDepth 100000 in
set_option maxHeartbeats 4000000 in
theorem complex_fin (X Y : Nat) (hX : X < 18446744073709551616) (hY : Y < 18446744073709551616) (hE : xE X ≠ 2047) (hF : xE Y ≠ 2047) (w : World) :
    Calls Tryz.prog 61 #[.complex .f64 X Y] w (RetNumE w 0 (cx X Y)) := by
  have C1 := Lib.hid (fun w => finite_true X hX hE w)
  have C2 := Lib.hid (fun w => finite_true Y hY hF w)
  have S1 := Lib.hid (fun w => split_any X hX hE w)
  have S2 := Lib.hid (fun w => split_any Y hY hF w)
  have p1 := xP_lo X
  have p2 := xP_fin hE
  have p3 := xP_lo Y
  have p4 := xP_fin hF
  have m1 := xM_lt X
  have m2 := xM_lt Y
  obtain ⟨K, hK⟩ : ∃ K : Nat, max (max 0 (-(xP X))) (-(xP Y)) = (K : Int) := ⟨(max (max 0 (-(xP X))) (-(xP Y))).toNat, by omega⟩
  have hK2 : (if (if xP X < 0 then -xP X else 0) < -xP Y then -xP Y else if xP X < 0 then -xP X else 0) = (K : Int) := by rw [← hK]; split <;> split <;> omega
  replace hK2 := Lib.hid hK2
  have k3 : K ≤ 1074 := by omega
  have HK3 := Lib.hid k3
  obtain ⟨n1, hn1⟩ : ∃ n : Nat, xP X + (K : Int) = (n : Int) := ⟨(xP X + K).toNat, by omega⟩
  obtain ⟨n2, hn2⟩ : ∃ n : Nat, xP Y + (K : Int) = (n : Int) := ⟨(xP Y + K).toNat, by omega⟩
  have k1 : n1 ≤ 2045 := by omega
  have k2 : n2 ≤ 2045 := by omega
  have HQ := Lib.hid (x_fr X Y K (by omega) (by omega))
  rw [hn1, hn2, Int.toNat_natCast, Int.toNat_natCast, ← zi_scale (xS X) (xM X), ← zi_scale (xS Y) (xM Y)] at HQ
  have b1 : Hid (ln (ab (zi (xS X) (xM X))) ≤ 2) := Lib.hid (by rw [zi_ab]; exact ln_le (by rw [show (4294967296 : Nat) ^ 2 = 18446744073709551616 by decide]; omega))
  have b2 : Hid (ln (ab (zi (xS Y) (xM Y))) ≤ 2) := Lib.hid (by rw [zi_ab]; exact ln_le (by rw [show (4294967296 : Nat) ^ 2 = 18446744073709551616 by decide]; omega))
  obtain ⟨a, ha⟩ : ∃ a, a = zi (xS X) (xM X) := ⟨_, rfl⟩
  obtain ⟨b, hb⟩ : ∃ b, b = zi (xS Y) (xM Y) := ⟨_, rfl⟩
  obtain ⟨P, hP⟩ : ∃ P, P = xP X := ⟨_, rfl⟩
  obtain ⟨Q, hQ⟩ : ∃ P, P = xP Y := ⟨_, rfl⟩
  rw [← ha, ← hP] at S1
  rw [← hb, ← hQ] at S2
  rw [← ha, ← hb] at HQ
  rw [← ha] at b1
  rw [← hb] at b2
  rw [← hP, ← hQ] at hK hK2
  rw [← hP] at p1 p2 hn1
  rw [← hQ] at p3 p4 hn2
  obtain ⟨q, hq⟩ : ∃ q, q = cx X Y := ⟨_, rfl⟩
  rw [← hq] at HQ ⊢
  obtain ⟨L1, hL1⟩ : ∃ L, L = ab a * 2 ^ n1 := ⟨_, rfl⟩
  obtain ⟨L2, hL2⟩ : ∃ L, L = ab b * 2 ^ n2 := ⟨_, rfl⟩
  obtain ⟨U, hU⟩ : ∃ U, U = 2 ^ K := ⟨_, rfl⟩
  rw [← hL1, ← hL2, ← hU] at HQ
  obtain ⟨Z1, hZ1⟩ : ∃ Z, Z = zi (sn a) L1 := ⟨_, rfl⟩
  obtain ⟨Z2, hZ2⟩ : ∃ Z, Z = zi (sn b) L2 := ⟨_, rfl⟩
  rw [← hZ1, ← hZ2] at HQ
  rw [← HQ.out]
  have B1 : Hid (ln (ab Z1) ≤ 1000) := Lib.hid (by rw [hZ1, zi_ab, hL1]; have := nat_mul_ln b1.out (ln_pow2 n1); omega)
  have B2 : Hid (ln (ab Z2) ≤ 1000) := Lib.hid (by rw [hZ2, zi_ab, hL2]; have := nat_mul_ln b2.out (ln_pow2 n2); omega)
  have B3 : Hid (ln U ≤ 1000) := Lib.hid (by rw [hU]; have := ln_pow2 K; omega)
  have U0 : Hid (U ≠ 0) := Lib.hid (by rw [hU]; have : 0 < 2 ^ K := Nat.pow_pos (by omega); exact Nat.ne_of_gt this)
  have EL1 := Lib.hid hL1
  have EL2 := Lib.hid hL2
  have EU := Lib.hid hU
  have EZ1 := Lib.hid hZ1.symm
  have EZ2 := Lib.hid hZ2.symm
  clear hX hY hE hF m1 m2 ha hb hP hQ hq HQ hL1 hL2 hU hZ1 hZ2
  go_enter Tryz.func61, Tryz.ntmps61
  go_wp2_with fail
  obtain ⟨W, hW⟩ : ∃ W : World, W = (w.alloc (.cells #[.bool false, .slice none 0 0, .bool false, .slice none 0 0, .slice none 0 0] 30)) := ⟨_, rfl⟩
  have r0 : W.cell? ⟨w.heap.size, 0, none⟩ = some (.bool false) := by subst hW; go_simp
  have f0 : W.frozen? ⟨w.heap.size, 0, none⟩ = false := by subst hW; go_simp
  have r1 : W.cell? ⟨w.heap.size, 1, none⟩ = some (.slice none 0 0) := by subst hW; go_simp
  have f1 : W.frozen? ⟨w.heap.size, 1, none⟩ = false := by subst hW; go_simp
  have r2 : W.cell? ⟨w.heap.size, 2, none⟩ = some (.bool false) := by subst hW; go_simp
  have f2 : W.frozen? ⟨w.heap.size, 2, none⟩ = false := by subst hW; go_simp
  have r3 : W.cell? ⟨w.heap.size, 3, none⟩ = some (.slice none 0 0) := by subst hW; go_simp
  have f3 : W.frozen? ⟨w.heap.size, 3, none⟩ = false := by subst hW; go_simp
  have r4 : W.cell? ⟨w.heap.size, 4, none⟩ = some (.slice none 0 0) := by subst hW; go_simp
  have f4 : W.frozen? ⟨w.heap.size, 4, none⟩ = false := by subst hW; go_simp
  have HW : Below w.heap.size w W := by subst hW; exact ((Below.refl w.heap.size w).alloc (Nat.le_refl _) _)
  have l0 : w.heap.size < W.heap.size := by subst hW; simp
  rw [← hW]
  clear hW
  replace HW := Lib.hid HW
  refine (C1.out _).mono ?_
  rintro e w01 ⟨rfl, hw⟩
  rw [hw]
  clear hw w01
  go_wp2_with fail
  refine (C2.out _).mono ?_
  rintro e w01 ⟨rfl, hw⟩
  rw [hw]
  clear hw w01
  go_wp2_with fail
  refine (S1.out _).mono ?_
  rintro e w1 ⟨A1, rfl, h1, hb1⟩
  replace r0 := keepc hb1 r0 l0
  replace f0 := keepf hb1 f0 l0
  replace r1 := keepc hb1 r1 l0
  replace f1 := keepf hb1 f1 l0
  replace r2 := keepc hb1 r2 l0
  replace f2 := keepf hb1 f2 l0
  replace r3 := keepc hb1 r3 l0
  replace f3 := keepf hb1 f3 l0
  replace r4 := keepc hb1 r4 l0
  replace f4 := keepf hb1 f4 l0
  replace l0 := Nat.lt_of_lt_of_le l0 hb1.size
  replace HW := Lib.hid (hstep HW hb1)
  clear hb1
  go_wp2_with fail
  obtain ⟨w2, hX⟩ : ∃ X : World, X = w1.alloc (.cells #[.bool (sn a), .slice A1 (ln (ab a)) (ln (ab a))] 28) := ⟨_, rfl⟩
  rw [← hX]
  have hb2 : Below w1.heap.size w1 w2 := by rw [hX]; exact (Below.refl _ _).alloc (Nat.le_refl _) _
  have t0_0 : w2.cell? ⟨w1.heap.size, 0, none⟩ = some (.bool (sn a)) := by subst hX; go_simp
  have t0_1 : w2.cell? ⟨w1.heap.size, 1, none⟩ = some (.slice A1 (ln (ab a)) (ln (ab a))) := by subst hX; go_simp
  have l100 : w1.heap.size < w2.heap.size := by rw [hX]; simp
  have n100 : w1.heap.size ≠ w.heap.size := by omega
  replace r0 := keepc hb2 r0 l0
  replace f0 := keepf hb2 f0 l0
  replace r1 := keepc hb2 r1 l0
  replace f1 := keepf hb2 f1 l0
  replace r2 := keepc hb2 r2 l0
  replace f2 := keepf hb2 f2 l0
  replace r3 := keepc hb2 r3 l0
  replace f3 := keepf hb2 f3 l0
  replace r4 := keepc hb2 r4 l0
  replace f4 := keepf hb2 f4 l0
  replace l0 := Nat.lt_of_lt_of_le l0 hb2.size
  replace h1 := h1.to hb2
  replace HW := Lib.hid (hstep HW hb2)
  clear hb2
  clear hX
  obtain ⟨g0, hg0⟩ : ∃ g, g = w1.heap.size := ⟨_, rfl⟩
  rw [← hg0] at t0_0 t0_1 l100 n100
  rw [← hg0]
  clear hg0
  refine (S2.out _).mono ?_
  rintro e w3 ⟨A2, rfl, h2, hb3⟩
  replace t0_0 := keepc hb3 t0_0 l100
  replace t0_1 := keepc hb3 t0_1 l100
  replace r0 := keepc hb3 r0 l0
  replace f0 := keepf hb3 f0 l0
  replace r1 := keepc hb3 r1 l0
  replace f1 := keepf hb3 f1 l0
  replace r2 := keepc hb3 r2 l0
  replace f2 := keepf hb3 f2 l0
  replace r3 := keepc hb3 r3 l0
  replace f3 := keepf hb3 f3 l0
  replace r4 := keepc hb3 r4 l0
  replace f4 := keepf hb3 f4 l0
  replace l0 := Nat.lt_of_lt_of_le l0 hb3.size
  replace l100 := Nat.lt_of_lt_of_le l100 hb3.size
  replace h1 := h1.to hb3
  replace HW := Lib.hid (hstep HW hb3)
  clear hb3
  go_upto_region 6 with fail
  obtain ⟨w4, hX⟩ : ∃ X : World, X = w3.alloc (.cells #[.bool (sn b), .slice A2 (ln (ab b)) (ln (ab b))] 28) := ⟨_, rfl⟩
  rw [← hX]
  have hb4 : Below w3.heap.size w3 w4 := by rw [hX]; exact (Below.refl _ _).alloc (Nat.le_refl _) _
  have t1_0 : w4.cell? ⟨w3.heap.size, 0, none⟩ = some (.bool (sn b)) := by subst hX; go_simp
  have t1_1 : w4.cell? ⟨w3.heap.size, 1, none⟩ = some (.slice A2 (ln (ab b)) (ln (ab b))) := by subst hX; go_simp
  have l101 : w3.heap.size < w4.heap.size := by rw [hX]; simp
  have n101 : w3.heap.size ≠ w.heap.size := by omega
  replace t0_0 := keepc hb4 t0_0 l100
  replace t0_1 := keepc hb4 t0_1 l100
  replace r0 := keepc hb4 r0 l0
  replace f0 := keepf hb4 f0 l0
  replace r1 := keepc hb4 r1 l0
  replace f1 := keepf hb4 f1 l0
  replace r2 := keepc hb4 r2 l0
  replace f2 := keepf hb4 f2 l0
  replace r3 := keepc hb4 r3 l0
  replace f3 := keepf hb4 f3 l0
  replace r4 := keepc hb4 r4 l0
  replace f4 := keepf hb4 f4 l0
  replace l0 := Nat.lt_of_lt_of_le l0 hb4.size
  replace l100 := Nat.lt_of_lt_of_le l100 hb4.size
  replace h1 := h1.to hb4
  replace h2 := h2.to hb4
  replace HW := Lib.hid (hstep HW hb4)
  clear hb4
  clear hX
  obtain ⟨g1, hg1⟩ : ∃ g, g = w3.heap.size := ⟨_, rfl⟩
  rw [← hg1] at t1_0 t1_1 l101 n101
  rw [← hg1]
  clear hg1
  rw [hK2.out]
  have u1 : IntKind.i64.wrap (n1 : Int) = (n1 : Int) := by rw [IntKind.wrap_i64]; omega
  have u2 : IntKind.i64.wrap (n2 : Int) = (n2 : Int) := by rw [IntKind.wrap_i64]; omega
  clear C1 C2 S1 S2 p1 p2 p3 p4 hK hK2 k3
  go_region_held3 (fun w' => w'.cell? ⟨g0, 0, none⟩ = some (.bool (sn a)) ∧ w'.cell? ⟨g0, 1, none⟩ = some (.slice A1 (ln (ab a)) (ln (ab a))) ∧ w'.cell? ⟨g1, 0, none⟩ = some (.bool (sn b)) ∧ w'.cell? ⟨g1, 1, none⟩ = some (.slice A2 (ln (ab b)) (ln (ab b)))) (first | with_reducible exact ⟨t0_0, t0_1, t1_0, t1_1⟩ | with_reducible exact ⟨(keepd t0_0), (keepd t0_1), (keepd t1_0), (keepd t1_1)⟩ | with_reducible exact ⟨(keepa t0_0 l100), (keepa t0_1 l100), (keepa t1_0 l101), (keepa t1_1 l101)⟩ | with_reducible exact ⟨(keepd (keepa t0_0 l100)), (keepd (keepa t0_1 l100)), (keepd (keepa t1_0 l101)), (keepd (keepa t1_1 l101))⟩ | with_reducible exact ⟨(keepa (keepd t0_0) l100), (keepa (keepd t0_1) l100), (keepa (keepd t1_0) l101), (keepa (keepd t1_1) l101)⟩ | with_reducible exact ⟨(keeps (keeps (keeps (keeps (keeps t0_0 n100) n100) n100) n100) n100), (keeps (keeps (keeps (keeps (keeps t0_1 n100) n100) n100) n100) n100), (keeps (keeps (keeps (keeps (keeps t1_0 n101) n101) n101) n101) n101), (keeps (keeps (keeps (keeps (keeps t1_1 n101) n101) n101) n101) n101)⟩) (first
    | (have _ := mk4; go_at_call 96; refine (over_any Z1 Z2 U V1 V2 T3 _ (by exact v1) (by exact v2) (by exact i3) (Nat.le_trans B1.out (by omega)) (Nat.le_trans B2.out (by omega)) (Nat.le_trans B3.out (by omega)) U0.out).mono ?_; rintro e w10 ⟨Y1, Y2, Y3, rfl, hz, ha⟩; have hb10 : Below w9.heap.size w9 w10 := (by first | with_reducible exact ha | with_reducible exact undrew ha | with_reducible exact unalloc ha | with_reducible exact undrewalloc ha | with_reducible exact unalloc (undrew ha) | with_reducible exact undrew (unalloc ha)); (try replace q1 := q1.to hb10); (try first | (with_reducible have q1 := newnat ha) | (with_reducible have q1 := newnat (undrew ha)) | (with_reducible have q1 := newnat (unalloc ha))); replace t0_0 := keepc hb10 t0_0 l100; replace t0_1 := keepc hb10 t0_1 l100; replace t1_0 := keepc hb10 t1_0 l101; replace t1_1 := keepc hb10 t1_1 l101; replace r0 := keepc hb10 r0 l0; replace f0 := keepf hb10 f0 l0; replace r1 := keepc hb10 r1 l0; replace f1 := keepf hb10 f1 l0; replace r2 := keepc hb10 r2 l0; replace f2 := keepf hb10 f2 l0; replace r3 := keepc hb10 r3 l0; replace f3 := keepf hb10 f3 l0; replace r4 := keepc hb10 r4 l0; replace f4 := keepf hb10 f4 l0; replace l0 := Nat.lt_of_lt_of_le l0 hb10.size; replace l100 := Nat.lt_of_lt_of_le l100 hb10.size; replace l101 := Nat.lt_of_lt_of_le l101 hb10.size; replace h1 := h1.to hb10; replace h2 := h2.to hb10; replace i1 := i1.to hb10; replace v1 := v1.to hb10; replace i2 := i2.to hb10; replace v2 := v2.to hb10; replace i3 := i3.to hb10; replace HW := Lib.hid (hstep HW hb10); clear hb10; clear ha; have mk5 : True := trivial; clear mk4)
    | (have _ := mk3; go_at_call 114; refine (shl_one2 K U EU.out _ _ (by first | with_reducible exact q1 | with_reducible exact nat1_new _ _ | exact q1 | exact nat1_new _ _) (Nat.le_trans HK3.out (by omega))).mono ?_; rintro e w9 ⟨T3, rfl, i3, ha⟩; have hb9 : Below w8.heap.size w8 w9 := (by first | with_reducible exact ha | with_reducible exact undrew ha | with_reducible exact unalloc ha | with_reducible exact undrewalloc ha | with_reducible exact unalloc (undrew ha) | with_reducible exact undrew (unalloc ha)); (try replace q1 := q1.to hb9); (try first | (with_reducible have q1 := newnat ha) | (with_reducible have q1 := newnat (undrew ha)) | (with_reducible have q1 := newnat (unalloc ha))); replace t0_0 := keepc hb9 t0_0 l100; replace t0_1 := keepc hb9 t0_1 l100; replace t1_0 := keepc hb9 t1_0 l101; replace t1_1 := keepc hb9 t1_1 l101; replace r0 := keepc hb9 r0 l0; replace f0 := keepf hb9 f0 l0; replace r1 := keepc hb9 r1 l0; replace f1 := keepf hb9 f1 l0; replace r2 := keepc hb9 r2 l0; replace f2 := keepf hb9 f2 l0; replace r3 := keepc hb9 r3 l0; replace f3 := keepf hb9 f3 l0; replace r4 := keepc hb9 r4 l0; replace f4 := keepf hb9 f4 l0; replace l0 := Nat.lt_of_lt_of_le l0 hb9.size; replace l100 := Nat.lt_of_lt_of_le l100 hb9.size; replace l101 := Nat.lt_of_lt_of_le l101 hb9.size; replace h1 := h1.to hb9; replace h2 := h2.to hb9; replace i1 := i1.to hb9; replace v1 := v1.to hb9; replace i2 := i2.to hb9; replace v2 := v2.to hb9; replace HW := Lib.hid (hstep HW hb9); clear hb9; clear ha; have mk4 : True := trivial; clear mk3)
    | (have _ := mk2; go_at_call 123; refine (wholeOf_nm (sn b) L2 Z2 EZ2.out T2 _ (by first | with_reducible exact i2 | with_reducible exact i2.alloc _ | exact i2 | exact i2.alloc _)).mono ?_; rintro e w8 ⟨V2, rfl, v2, ha⟩; have hb8 : Below w7.heap.size w7 w8 := (by first | with_reducible exact ha | with_reducible exact undrew ha | with_reducible exact unalloc ha | with_reducible exact undrewalloc ha | with_reducible exact unalloc (undrew ha) | with_reducible exact undrew (unalloc ha)); (try replace q1 := q1.to hb8); (try first | (with_reducible have q1 := newnat ha) | (with_reducible have q1 := newnat (undrew ha)) | (with_reducible have q1 := newnat (unalloc ha))); replace t0_0 := keepc hb8 t0_0 l100; replace t0_1 := keepc hb8 t0_1 l100; replace t1_0 := keepc hb8 t1_0 l101; replace t1_1 := keepc hb8 t1_1 l101; replace r0 := keepc hb8 r0 l0; replace f0 := keepf hb8 f0 l0; replace r1 := keepc hb8 r1 l0; replace f1 := keepf hb8 f1 l0; replace r2 := keepc hb8 r2 l0; replace f2 := keepf hb8 f2 l0; replace r3 := keepc hb8 r3 l0; replace f3 := keepf hb8 f3 l0; replace r4 := keepc hb8 r4 l0; replace f4 := keepf hb8 f4 l0; replace l0 := Nat.lt_of_lt_of_le l0 hb8.size; replace l100 := Nat.lt_of_lt_of_le l100 hb8.size; replace l101 := Nat.lt_of_lt_of_le l101 hb8.size; replace h1 := h1.to hb8; replace h2 := h2.to hb8; replace i1 := i1.to hb8; replace v1 := v1.to hb8; replace i2 := i2.to hb8; replace HW := Lib.hid (hstep HW hb8); clear hb8; clear ha; have mk3 : True := trivial; clear mk2)
    | (have _ := mk1; go_at_call 114; refine (shl_nm (ab b) n2 L2 EL2.out A2 _ (by first | with_reducible exact h2 | with_reducible exact h2.alloc _ | exact h2 | exact h2.alloc _) (Nat.le_trans b2.out (by omega)) (by omega)).mono ?_; rintro e w7 ⟨T2, rfl, i2, ha⟩; have hb7 : Below w6.heap.size w6 w7 := (by first | with_reducible exact ha | with_reducible exact undrew ha | with_reducible exact unalloc ha | with_reducible exact undrewalloc ha | with_reducible exact unalloc (undrew ha) | with_reducible exact undrew (unalloc ha)); (try replace q1 := q1.to hb7); (try first | (with_reducible have q1 := newnat ha) | (with_reducible have q1 := newnat (undrew ha)) | (with_reducible have q1 := newnat (unalloc ha))); replace t0_0 := keepc hb7 t0_0 l100; replace t0_1 := keepc hb7 t0_1 l100; replace t1_0 := keepc hb7 t1_0 l101; replace t1_1 := keepc hb7 t1_1 l101; replace r0 := keepc hb7 r0 l0; replace f0 := keepf hb7 f0 l0; replace r1 := keepc hb7 r1 l0; replace f1 := keepf hb7 f1 l0; replace r2 := keepc hb7 r2 l0; replace f2 := keepf hb7 f2 l0; replace r3 := keepc hb7 r3 l0; replace f3 := keepf hb7 f3 l0; replace r4 := keepc hb7 r4 l0; replace f4 := keepf hb7 f4 l0; replace l0 := Nat.lt_of_lt_of_le l0 hb7.size; replace l100 := Nat.lt_of_lt_of_le l100 hb7.size; replace l101 := Nat.lt_of_lt_of_le l101 hb7.size; replace h1 := h1.to hb7; replace h2 := h2.to hb7; replace i1 := i1.to hb7; replace v1 := v1.to hb7; replace HW := Lib.hid (hstep HW hb7); clear hb7; clear ha; have mk2 : True := trivial; clear mk1)
    | (have _ := mk0; go_at_call 123; refine (wholeOf_nm (sn a) L1 Z1 EZ1.out T1 _ (by first | with_reducible exact i1 | with_reducible exact i1.alloc _ | exact i1 | exact i1.alloc _)).mono ?_; rintro e w6 ⟨V1, rfl, v1, ha⟩; have hb6 : Below w5.heap.size w5 w6 := (by first | with_reducible exact ha | with_reducible exact undrew ha | with_reducible exact unalloc ha | with_reducible exact undrewalloc ha | with_reducible exact unalloc (undrew ha) | with_reducible exact undrew (unalloc ha)); (try replace q1 := q1.to hb6); (try first | (with_reducible have q1 := newnat ha) | (with_reducible have q1 := newnat (undrew ha)) | (with_reducible have q1 := newnat (unalloc ha))); replace t0_0 := keepc hb6 t0_0 l100; replace t0_1 := keepc hb6 t0_1 l100; replace t1_0 := keepc hb6 t1_0 l101; replace t1_1 := keepc hb6 t1_1 l101; replace r0 := keepc hb6 r0 l0; replace f0 := keepf hb6 f0 l0; replace r1 := keepc hb6 r1 l0; replace f1 := keepf hb6 f1 l0; replace r2 := keepc hb6 r2 l0; replace f2 := keepf hb6 f2 l0; replace r3 := keepc hb6 r3 l0; replace f3 := keepf hb6 f3 l0; replace r4 := keepc hb6 r4 l0; replace f4 := keepf hb6 f4 l0; replace l0 := Nat.lt_of_lt_of_le l0 hb6.size; replace l100 := Nat.lt_of_lt_of_le l100 hb6.size; replace l101 := Nat.lt_of_lt_of_le l101 hb6.size; replace h1 := h1.to hb6; replace h2 := h2.to hb6; replace i1 := i1.to hb6; replace HW := Lib.hid (hstep HW hb6); clear hb6; clear ha; have mk1 : True := trivial; clear mk0)
    | (go_at_call 114; refine (shl_nm (ab a) n1 L1 EL1.out A1 _ (by first | with_reducible exact h1 | with_reducible exact h1.alloc _ | exact h1 | exact h1.alloc _) (Nat.le_trans b1.out (by omega)) (by omega)).mono ?_; rintro e w5 ⟨T1, rfl, i1, ha⟩; have hb5 : Below w4.heap.size w4 w5 := (by first | with_reducible exact ha | with_reducible exact undrew ha | with_reducible exact unalloc ha | with_reducible exact undrewalloc ha | with_reducible exact unalloc (undrew ha) | with_reducible exact undrew (unalloc ha)); (try replace q1 := q1.to hb5); (try first | (with_reducible have q1 := newnat ha) | (with_reducible have q1 := newnat (undrew ha)) | (with_reducible have q1 := newnat (unalloc ha))); replace t0_0 := keepc hb5 t0_0 l100; replace t0_1 := keepc hb5 t0_1 l100; replace t1_0 := keepc hb5 t1_0 l101; replace t1_1 := keepc hb5 t1_1 l101; replace r0 := keepc hb5 r0 l0; replace f0 := keepf hb5 f0 l0; replace r1 := keepc hb5 r1 l0; replace f1 := keepf hb5 f1 l0; replace r2 := keepc hb5 r2 l0; replace f2 := keepf hb5 f2 l0; replace r3 := keepc hb5 r3 l0; replace f3 := keepf hb5 f3 l0; replace r4 := keepc hb5 r4 l0; replace f4 := keepf hb5 f4 l0; replace l0 := Nat.lt_of_lt_of_le l0 hb5.size; replace l100 := Nat.lt_of_lt_of_le l100 hb5.size; replace l101 := Nat.lt_of_lt_of_le l101 hb5.size; replace h1 := h1.to hb5; replace h2 := h2.to hb5; replace HW := Lib.hid (hstep HW hb5); clear hb5; clear ha; have mk0 : True := trivial))
  all_goals go_wp2_with fail
  all_goals exact bodyPost_ret (v := .tuple #[.agg #[.bool (sn (na (fr Z1 Z2 U))), .slice Y1 (ln (ab (na (fr Z1 Z2 U)))) (ln (ab (na (fr Z1 Z2 U)))), .bool (sn (nb (fr Z1 Z2 U))), .slice Y2 (ln (ab (nb (fr Z1 Z2 U)))) (ln (ab (nb (fr Z1 Z2 U)))), .slice Y3 (ln (un (fr Z1 Z2 U))) (ln (un (fr Z1 Z2 U)))], .int .i64 0]) (by simp [results, Tryz.results61, go_sem, r0, r1, r2, r3, r4, f0, f1, f2, f3, f4]) rfl (retNumE_fin HW hz (by omega) r0)

theorem complex_bad (X Y : Nat) (hX : X < 18446744073709551616) (hY : Y < 18446744073709551616) (hE : xE X = 2047 ∨ xE Y = 2047) (w : World) : Calls Tryz.prog 61 #[.complex .f64 X Y] w (RetNumE w 1 Cx.zero) := by
  by_cases h : xE X = 2047
  · exact complex_bad1 X Y hX hY h w
  · exact complex_bad2 X Y hX hY h (hE.resolve_left h) w
end Go.Proofs.YtgpmlhpgdalheaaGreat

namespace Go.Proofs.YtgpmlhpgdalheaaGreat
open Go.RowKit Pl
set_option linter.unusedVariables false
set_option linter.unusedSimpArgs false

theorem sz_re {K : Nat} {x : Cx} (hx : sz K x) : sz K x.reOf := by
  rw [← re_fr]; exact fr_sz (nd_ne0 x) hx.1 (by show ln 0 ≤ K; rw [ln_zero]; omega) hx.2.2
set_option maxHeartbeats 4000000 in
theorem re_num (x : Cx) (A1 A2 A3 : Option Addr) (w : World) (hx : Num3 w A1 A2 A3 x) (hsx : sz 137438953472 x) :
    Calls Tryz.prog 40 #[.agg #[.bool (sn (na x)), .slice A1 (ln (ab (na x))) (ln (ab (na x))), .bool (sn (nb x)), .slice A2 (ln (ab (nb x))) (ln (ab (nb x))), .slice A3 (ln (un x)) (ln (un x))]] w (RetNum w x.reOf) := by
  obtain ⟨hx1, hx2, hx3⟩ := hx
  have HSX := Lib.hid hsx
  clear hsx
  rw [← re_fr]
  go_enter Tryz.func40, Tryz.ntmps40
  go_wp2_with fail
  obtain ⟨W, hW⟩ : ∃ W : World, W = ((w.alloc (.cells #[.bool (sn (na x)), .slice A1 (ln (ab (na x))) (ln (ab (na x))), .bool (sn (nb x)), .slice A2 (ln (ab (nb x))) (ln (ab (nb x))), .slice A3 (ln (un x)) (ln (un x))] 30)).alloc (.cells #[.bool false, .slice none 0 0, .bool false, .slice none 0 0, .slice none 0 0] 30)) := ⟨_, rfl⟩
  have s0_0 : W.cell? ⟨w.heap.size, 0, none⟩ = some (.bool (sn (na x))) := by subst hW; go_simp
  have s0_1 : W.cell? ⟨w.heap.size, 1, none⟩ = some (.slice A1 (ln (ab (na x))) (ln (ab (na x)))) := by subst hW; go_simp
  have s0_2 : W.cell? ⟨w.heap.size, 2, none⟩ = some (.bool (sn (nb x))) := by subst hW; go_simp
  have s0_3 : W.cell? ⟨w.heap.size, 3, none⟩ = some (.slice A2 (ln (ab (nb x))) (ln (ab (nb x)))) := by subst hW; go_simp
  have s0_4 : W.cell? ⟨w.heap.size, 4, none⟩ = some (.slice A3 (ln (un x)) (ln (un x))) := by subst hW; go_simp
  have r0 : W.cell? ⟨w.heap.size + 1, 0, none⟩ = some (.bool false) := by subst hW; go_simp
  have f0 : W.frozen? ⟨w.heap.size + 1, 0, none⟩ = false := by subst hW; go_simp
  have r1 : W.cell? ⟨w.heap.size + 1, 1, none⟩ = some (.slice none 0 0) := by subst hW; go_simp
  have f1 : W.frozen? ⟨w.heap.size + 1, 1, none⟩ = false := by subst hW; go_simp
  have r2 : W.cell? ⟨w.heap.size + 1, 2, none⟩ = some (.bool false) := by subst hW; go_simp
  have f2 : W.frozen? ⟨w.heap.size + 1, 2, none⟩ = false := by subst hW; go_simp
  have r3 : W.cell? ⟨w.heap.size + 1, 3, none⟩ = some (.slice none 0 0) := by subst hW; go_simp
  have f3 : W.frozen? ⟨w.heap.size + 1, 3, none⟩ = false := by subst hW; go_simp
  have r4 : W.cell? ⟨w.heap.size + 1, 4, none⟩ = some (.slice none 0 0) := by subst hW; go_simp
  have f4 : W.frozen? ⟨w.heap.size + 1, 4, none⟩ = false := by subst hW; go_simp
  have HW : Below w.heap.size w W := by subst hW; exact (((Below.refl w.heap.size w).alloc (Nat.le_refl _) _).alloc (by simp) _)
  have l0 : w.heap.size < W.heap.size := by subst hW; simp <;> omega
  have l1 : w.heap.size + 1 < W.heap.size := by subst hW; simp
  have n0 : w.heap.size ≠ w.heap.size + 1 := by omega
  replace hx1 := hx1.to HW
  replace hx2 := hx2.to HW
  replace hx3 := hx3.to HW
  rw [← hW]
  clear hW
  replace HW := Lib.hid HW
  go_region_held3 (fun w' => w'.cell? ⟨w.heap.size, 0, none⟩ = some (.bool (sn (na x))) ∧ w'.cell? ⟨w.heap.size, 1, none⟩ = some (.slice A1 (ln (ab (na x))) (ln (ab (na x)))) ∧ w'.cell? ⟨w.heap.size, 2, none⟩ = some (.bool (sn (nb x))) ∧ w'.cell? ⟨w.heap.size, 3, none⟩ = some (.slice A2 (ln (ab (nb x))) (ln (ab (nb x)))) ∧ w'.cell? ⟨w.heap.size, 4, none⟩ = some (.slice A3 (ln (un x)) (ln (un x)))) (first | with_reducible exact ⟨s0_0, s0_1, s0_2, s0_3, s0_4⟩ | with_reducible exact ⟨(keeps (keeps (keeps (keeps (keeps s0_0 n0) n0) n0) n0) n0), (keeps (keeps (keeps (keeps (keeps s0_1 n0) n0) n0) n0) n0), (keeps (keeps (keeps (keeps (keeps s0_2 n0) n0) n0) n0) n0), (keeps (keeps (keeps (keeps (keeps s0_3 n0) n0) n0) n0) n0), (keeps (keeps (keeps (keeps (keeps s0_4 n0) n0) n0) n0) n0)⟩ | exact ⟨s0_0, s0_1, s0_2, s0_3, s0_4⟩) (first
    | (go_at_call 89; refine (den_any x A1 A2 A3 _ (by exact num3_mk hx1 hx2 hx3)).mono ?_; rintro e w1 ⟨D1, rfl, h1, hb1⟩; have hb1 := undrew hb1; replace s0_0 := keepc hb1 s0_0 l0; replace s0_1 := keepc hb1 s0_1 l0; replace s0_2 := keepc hb1 s0_2 l0; replace s0_3 := keepc hb1 s0_3 l0; replace s0_4 := keepc hb1 s0_4 l0; replace r0 := keepc hb1 r0 l1; replace f0 := keepf hb1 f0 l1; replace r1 := keepc hb1 r1 l1; replace f1 := keepf hb1 f1 l1; replace r2 := keepc hb1 r2 l1; replace f2 := keepf hb1 f2 l1; replace r3 := keepc hb1 r3 l1; replace f3 := keepf hb1 f3 l1; replace r4 := keepc hb1 r4 l1; replace f4 := keepf hb1 f4 l1; replace l0 := Nat.lt_of_lt_of_le l0 hb1.size; replace l1 := Nat.lt_of_lt_of_le l1 hb1.size; replace hx1 := hx1.to hb1; replace hx2 := hx2.to hb1; replace hx3 := hx3.to hb1; replace HW := Lib.hid (hstep HW hb1); clear hb1)
    | (go_at_call 96; refine (over0_any (na x) (nd x) A1 D1 _ (by exact hx1) (by exact h1) (by have := HSX.out; unfold sz at this; omega) (by have := HSX.out; unfold sz at this; omega) (nd_ne0 x)).mono ?_; rintro e w2 ⟨Z1, Z2, Z3, rfl, h2, hb2⟩; replace s0_0 := keepc hb2 s0_0 l0; replace s0_1 := keepc hb2 s0_1 l0; replace s0_2 := keepc hb2 s0_2 l0; replace s0_3 := keepc hb2 s0_3 l0; replace s0_4 := keepc hb2 s0_4 l0; replace r0 := keepc hb2 r0 l1; replace f0 := keepf hb2 f0 l1; replace r1 := keepc hb2 r1 l1; replace f1 := keepf hb2 f1 l1; replace r2 := keepc hb2 r2 l1; replace f2 := keepf hb2 f2 l1; replace r3 := keepc hb2 r3 l1; replace f3 := keepf hb2 f3 l1; replace r4 := keepc hb2 r4 l1; replace f4 := keepf hb2 f4 l1; replace l0 := Nat.lt_of_lt_of_le l0 hb2.size; replace l1 := Nat.lt_of_lt_of_le l1 hb2.size; replace hx1 := hx1.to hb2; replace hx2 := hx2.to hb2; replace hx3 := hx3.to hb2; replace h1 := h1.to hb2; replace HW := Lib.hid (hstep HW hb2); clear hb2))
  go_wp2_with fail
  exact bodyPost_ret (v := .agg #[.bool (sn (na (fr (na x) 0 (nd x)))), .slice Z1 (ln (ab (na (fr (na x) 0 (nd x))))) (ln (ab (na (fr (na x) 0 (nd x))))), .bool (sn (nb (fr (na x) 0 (nd x)))), .slice Z2 (ln (ab (nb (fr (na x) 0 (nd x))))) (ln (ab (nb (fr (na x) 0 (nd x))))), .slice Z3 (ln (un (fr (na x) 0 (nd x)))) (ln (un (fr (na x) 0 (nd x))))]) (by simp [results, Tryz.results40, go_sem, r0, r1, r2, r3, r4, f0, f1, f2, f3, f4]) rfl (retNum_fin HW h2 (by omega) r0)

end Go.Proofs.YtgpmlhpgdalheaaGreat
