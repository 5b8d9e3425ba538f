/- The reference's nearest at any fraction; its Near. The reference's toward: the plain laws; down. The reference's toward: up. The reference's Below and Above. Near64 of the program and of the reference. The law's sameFloat; a float's bits. -/
import Derived.Test.YtgpmlhpgdalheaaGreatGB
import Derived.Test.YtgpmlhpgdalheaaGreatRI
namespace Go.Proofs.YtgpmlhpgdalheaaGreat
open Go.RowKit Pl Fl
set_option linter.unusedVariables false
set_option linter.unusedSimpArgs false

theorem incW_two (size : Nat) (low : Int) (n d : Nat) : incW 2 size low n d = incN size low n d := by
  unfold incW
  rw [if_neg (by decide), if_neg (by decide)]
theorem prnd_two (size : Nat) (low top : Int) (n d : Nat) : prnd size low top n d 2 = rnd size low top n d (incN size low n d) := by
  unfold prnd
  rw [if_neg (fun h => absurd h.1 (by decide)), incW_two]
theorem srnd_near {size : Nat} {low top : Int} {a : Int} {d : Nat} (h : a ≠ 0) : srnd size low top a d 2 = sf (sn a) (rnd size low top (ab a) d (incN size low (ab a) d)) := by
  unfold srnd
  rw [if_neg h]
  have e : (if sn a = true then (if (2 : Int) = 2 then 2 else 1 - 2) else (2 : Int)) = 2 := by split <;> rfl
  rw [e, prnd_two]
set_option maxHeartbeats 4000000 in
theorem rnearest_nil (a : Int) (d : Nat) (wd lo tp : Int) (A D : Option Addr) (cA cD : Nat) (w : World) (h0 : a = 0) :
    Calls Tryz.prog 90 #[.agg #[.bool (sn a), .slice A (ln (ab a)) cA], .slice D (ln d) cD, .int .i64 wd, .int .i64 lo, .int .i64 tp] w (fun r w' => r = .returned (.float .f64 0) ∧ Below w.heap.size w w') := by
  have t : ((ln (ab a) : Int) == 0) = true := by rw [h0, show ab 0 = 0 from rfl, ln_zero]; rfl
  clear h0
  go_enter Tryz.func90, Tryz.ntmps90
  go_wp2_with fail
  go_ret
  exact ⟨rfl, (Below.refl w.heap.size w).alloc (Nat.le_refl _) _⟩

theorem rnear_double (a : Int) (d : Nat) (A D : Option Addr) (cA cD : Nat) (w : World) (hx : Nat32 w A (ab a)) (hy : Nat32 w D d) (hd : d ≠ 0) (hbx : ln (ab a) ≤ 100000) (hby : ln d ≤ 100000) :
    Calls Tryz.prog 90 #[.agg #[.bool (sn a), .slice A (ln (ab a)) cA], .slice D (ln d) cD, .int .i64 53, .int .i64 (-1074), .int .i64 1024] w (fun r w' => r = .returned (.float .f64 (srnd 53 (-1074) 1024 a d 2)) ∧ Below w.heap.size w w') := by
  by_cases h0 : a = 0
  · have e0 : srnd 53 (-1074) 1024 a d 2 = 0 := if_pos h0
    rw [e0]
    exact rnearest_nil a d _ _ _ A D cA cD w h0
  · rw [srnd_near h0]
    exact rnearest_any a d 53 (-1074) 1024 A D cA cD w hx hy h0 hd hbx hby (by decide) (by decide) (by decide) (by decide) (by decide) (by decide)

theorem rnear_single (a : Int) (d : Nat) (A D : Option Addr) (cA cD : Nat) (w : World) (hx : Nat32 w A (ab a)) (hy : Nat32 w D d) (hd : d ≠ 0) (hbx : ln (ab a) ≤ 100000) (hby : ln d ≤ 100000) :
    Calls Tryz.prog 90 #[.agg #[.bool (sn a), .slice A (ln (ab a)) cA], .slice D (ln d) cD, .int .i64 24, .int .i64 (-149), .int .i64 128] w (fun r w' => r = .returned (.float .f64 (srnd 24 (-149) 128 a d 2)) ∧ Below w.heap.size w w') := by
  by_cases h0 : a = 0
  · have e0 : srnd 24 (-149) 128 a d 2 = 0 := if_pos h0
    rw [e0]
    exact rnearest_nil a d _ _ _ A D cA cD w h0
  · rw [srnd_near h0]
    exact rnearest_any a d 24 (-149) 128 A D cA cD w hx hy h0 hd hbx hby (by decide) (by decide) (by decide) (by decide) (by decide) (by decide)

set_option maxHeartbeats 4000000 in
theorem rnear_any (x : Cx) (A1 A2 A3 : Option Addr) (cA1 cA2 cA3 : Nat) (w : World) (hx : Num3C w A1 A2 A3 x) (hsx : sz 100000 x) :
    Calls Tryz.prog 14 #[.agg #[.bool (sn (na x)), .slice A1 (ln (ab (na x))) cA1, .bool (sn (nb x)), .slice A2 (ln (ab (nb x))) cA2, .slice A3 (ln (nd x)) cA3]] w (fun r w' => r = .returned (.complex .f64 (srnd 53 (-1074) 1024 (na x) (nd x) 2) (srnd 53 (-1074) 1024 (nb x) (nd x) 2)) ∧ Below w.heap.size w w') := by
  obtain ⟨hx1, hx2, hx3⟩ := hx
  have HSX := Lib.hid hsx
  clear hsx
  go_enter Tryz.func14, Tryz.ntmps14
  go_wp2_with fail
  obtain ⟨W, hW⟩ : ∃ W : World, W = (w.alloc (.cells #[.bool (sn (na x)), .slice A1 (ln (ab (na x))) cA1, .bool (sn (nb x)), .slice A2 (ln (ab (nb x))) cA2, .slice A3 (ln (nd x)) cA3] 34)) := ⟨_, rfl⟩
  have s0_0 : W.cell? ⟨w.heap.size, 0, none⟩ = some (.bool (sn (na x))) := by subst hW; go_simp
  have s0_1 : W.cell? ⟨w.heap.size, 1, none⟩ = some (.slice A1 (ln (ab (na x))) cA1) := by subst hW; go_simp
  have s0_2 : W.cell? ⟨w.heap.size, 2, none⟩ = some (.bool (sn (nb x))) := by subst hW; go_simp
  have s0_3 : W.cell? ⟨w.heap.size, 3, none⟩ = some (.slice A2 (ln (ab (nb x))) cA2) := by subst hW; go_simp
  have s0_4 : W.cell? ⟨w.heap.size, 4, none⟩ = some (.slice A3 (ln (nd x)) cA3) := by subst hW; go_simp
  have HW : Below w.heap.size w W := by subst hW; exact ((Below.refl w.heap.size w).alloc (Nat.le_refl _) _)
  have l0 : w.heap.size < W.heap.size := by subst hW; simp
  replace hx1 := hx1.to HW
  replace hx2 := hx2.to HW
  replace hx3 := hx3.to HW
  rw [← hW]
  clear hW
  replace HW := Lib.hid HW
  go_region_held3 (fun w' => w'.cell? ⟨w.heap.size, 0, none⟩ = some (.bool (sn (na x))) ∧ w'.cell? ⟨w.heap.size, 1, none⟩ = some (.slice A1 (ln (ab (na x))) cA1) ∧ w'.cell? ⟨w.heap.size, 2, none⟩ = some (.bool (sn (nb x))) ∧ w'.cell? ⟨w.heap.size, 3, none⟩ = some (.slice A2 (ln (ab (nb x))) cA2) ∧ w'.cell? ⟨w.heap.size, 4, none⟩ = some (.slice A3 (ln (nd x)) cA3)) (first | with_reducible exact ⟨s0_0, s0_1, s0_2, s0_3, s0_4⟩ | with_reducible exact ⟨s0_0, s0_1, s0_2, s0_3, s0_4⟩ | exact ⟨s0_0, s0_1, s0_2, s0_3, s0_4⟩) (first
    | (have _ := m1; go_at_call 90; refine (rnear_double (nb x) (nd x) A2 A3 cA2 cA3 _ (by exact hx2) (by exact hx3) (nd_ne0 x) (by have := HSX.out; unfold sz at this; omega) (by have := HSX.out; unfold sz at this; omega)).mono ?_; rintro e w2 ⟨rfl, hb2⟩; replace s0_0 := keepc hb2 s0_0 l0; replace s0_1 := keepc hb2 s0_1 l0; replace s0_2 := keepc hb2 s0_2 l0; replace s0_3 := keepc hb2 s0_3 l0; replace s0_4 := keepc hb2 s0_4 l0; replace l0 := Nat.lt_of_lt_of_le l0 hb2.size; replace hx1 := hx1.to hb2; replace hx2 := hx2.to hb2; replace hx3 := hx3.to hb2; replace HW := Lib.hid (hstep HW hb2); clear hb2; have m2 : True := trivial)
    | (go_at_call 90; refine (rnear_double (na x) (nd x) A1 A3 cA1 cA3 _ (by exact hx1) (by exact hx3) (nd_ne0 x) (by have := HSX.out; unfold sz at this; omega) (by have := HSX.out; unfold sz at this; omega)).mono ?_; rintro e w1 ⟨rfl, hb1⟩; have hb1 := undrew hb1; replace s0_0 := keepc hb1 s0_0 l0; replace s0_1 := keepc hb1 s0_1 l0; replace s0_2 := keepc hb1 s0_2 l0; replace s0_3 := keepc hb1 s0_3 l0; replace s0_4 := keepc hb1 s0_4 l0; replace l0 := Nat.lt_of_lt_of_le l0 hb1.size; replace hx1 := hx1.to hb1; replace hx2 := hx2.to hb1; replace hx3 := hx3.to hb1; replace HW := Lib.hid (hstep HW hb1); clear hb1; have m1 : True := trivial))
  go_wp2_with fail
  go_ret
  exact ⟨rfl, HW.out⟩

end Go.Proofs.YtgpmlhpgdalheaaGreat

namespace Go.Proofs.YtgpmlhpgdalheaaGreat
open Go.RowKit Pl Fl
set_option linter.unusedVariables false
set_option linter.unusedSimpArgs false
namespace Fl
theorem lgq_of {n d : Nat} {T : Int} (hn : n ≠ 0) (hd : d ≠ 0) (hq : qq n d T ≠ 0) : lgq n d = (qq n d T).log2 + T := by
  have h1 := (qq_lt hn hd T ((qq n d T).log2 + 1)).1 ((Nat.log2_lt hq).1 (by omega))
  have h2 := mt (qq_lt hn hd T (qq n d T).log2).2 (Nat.not_lt.2 (Nat.log2_self_le hq))
  omega
theorem lst_zero {n d : Nat} {size : Nat} {low : Int} (hn : n ≠ 0) (hd : d ≠ 0) (hs : 1 ≤ size) (hq : qq n d (lst size low n d) = 0) : lst size low n d = low ∧ lgq n d < low := by
  have h := (qq_lt hn hd (lst size low n d) 0).1 (by rw [hq]; decide)
  unfold lst at h ⊢
  omega
theorem max_fl : fl (2 ^ 53 - 1) (1024 - (53 : Nat)) = 9218868437227405311 := by
  rw [show (2 : Nat) ^ 53 - 1 = 9007199254740991 by decide, show (1024 - ((53 : Nat) : Int)) = 971 by decide]
  rw [fl_norm (by decide) (by decide) (by decide) (by decide)]
  rfl
/-- Down. -/
theorem tow_down {n d : Nat} (hn : n ≠ 0) (hd : d ≠ 0) : prnd 53 (-1074) 1024 n d 0 = if qq n d (lst 53 (-1074) n d) = 0 then 0 else if 1024 < ((qq n d (lst 53 (-1074) n d)).log2 : Int) + 1 + lst 53 (-1074) n d then 9218868437227405311 else fl (qq n d (lst 53 (-1074) n d)) (lst 53 (-1074) n d) := by
  unfold prnd
  by_cases h0 : qq n d (lst 53 (-1074) n d) = 0
  · have h1 := lst_zero hn hd (by decide) h0
    rw [if_neg (fun h => by have := h.2; omega), if_pos h0]
    unfold rnd
    rw [show incW 0 53 (-1074) n d = false from if_pos rfl]
    exact if_pos (by rw [h0]; rfl)
  · have h1 := lgq_of hn hd h0
    rw [if_neg h0]
    by_cases h2 : 1024 ≤ lgq n d
    · rw [if_pos ⟨rfl, h2⟩, if_pos (by omega), max_fl]
    · rw [if_neg (fun h => h2 h.2), if_neg (by omega)]
      unfold rnd
      rw [show incW 0 53 (-1074) n d = false from if_pos rfl]
      rw [show qq n d (lst 53 (-1074) n d) + false.toNat = qq n d (lst 53 (-1074) n d) from rfl]
      rw [if_neg h0, if_neg (by omega)]
theorem incW_one {n d : Nat} (hd : d ≠ 0) (size : Nat) (low : Int) : incW 1 size low n d = (decide (qq n d (lst size low n d - 1) % 2 = 1) || decide (rr n d (lst size low n d - 1) ≠ 0)) := by
  unfold incW
  rw [if_neg (by decide), if_pos rfl]
  generalize lst size low n d = T
  have h := (step_up (n := n) hd (T - 1)).2
  have hu := un2_pos hd T
  rw [show T - 1 + 1 = T by omega] at h
  rw [Bool.eq_iff_iff]
  simp only [Bool.or_eq_true, decide_eq_true_eq]
  rcases h with ⟨h1, h2, h3⟩ | ⟨h1, h2, h3⟩ <;> omega
end Fl
theorem rfloat_nil (e : Int) (A : Option Addr) (c : Nat) (w : World) : Calls Tryz.prog 150 #[.slice A 0 c, .int .i64 e] w fun r w' => r = .returned (.float .f64 0) ∧ w' = w := by
  go_enter Tryz.func150, Tryz.ntmps150
  go_wp2_with fail
  go_ret
  exact ⟨rfl, rfl⟩
theorem rtoward_nil (d : Nat) (b : Bool) (A D : Option Addr) (cA cD : Nat) (w : World) : Calls Tryz.prog 93 #[.slice A 0 cA, .slice D (ln d) cD, .bool b] w fun r w' => r = .returned (.float .f64 0) ∧ w' = w := by
  go_enter Tryz.func93, Tryz.ntmps93
  go_wp2_with fail
  go_ret
  exact ⟨rfl, rfl⟩
set_option maxRecDepth 100000 in
set_option maxHeartbeats 4000000 in
theorem rtoward_down (a d : Nat) (A D : Option Addr) (cA cD : Nat) (w : World) (hx : Nat32 w A a) (hy : Nat32 w D d) (ha : a ≠ 0) (hd : d ≠ 0) (hbx : ln a ≤ 100000) (hby : ln d ≤ 100000) :
    Calls Tryz.prog 93 #[.slice A (ln a) cA, .slice D (ln d) cD, .bool false] w fun r w' => r = .returned (.float .f64 (prnd 53 (-1074) 1024 a d 0)) ∧ Below w.heap.size w w' := by
  have lx := ln_pos ha
  have t0 : ((ln a : Int) == 0) = false := by rw [beq_eq_false_iff_ne]; omega
  obtain ⟨T, hT⟩ : ∃ T, T = lst 53 (-1074) a d := ⟨_, rfl⟩
  have hTl : -1074 ≤ T := by rw [hT]; unfold lst; omega
  have hTu : T ≤ 3300000 := by have := log2_ln ha; have := log2_ln hd; have := lgq_near a d; rw [hT]; unfold lst; omega
  have hqb : qq a d T < 2 ^ 53 := by rw [hT]; exact lst_lt ha hd
  have hz : qq a d T = 0 → T = -1074 := fun h => by rw [hT] at h ⊢; exact (lst_zero ha hd (by decide) h).1
  have HV := Lib.hid (tow_down ha hd)
  rw [← hT] at HV
  have HSP := Lib.hid (rsplit_any a d 53 (-1074) A D cA cD)
  rw [← hT] at HSP
  obtain ⟨V, hV⟩ : ∃ V, V = prnd 53 (-1074) 1024 a d 0 := ⟨_, rfl⟩
  rw [← hV] at HV ⊢
  have HA := Lib.hid ha
  have HD := Lib.hid hd
  have HB := Lib.hid (And.intro hbx hby)
  have HQB := Lib.hid hqb
  have HZ := Lib.hid hz
  clear lx hT hqb hz hV ha hd hbx hby
  go_enter Tryz.func93, Tryz.ntmps93
  go_wp2_with fail
  refine (HSP.out _ (by exact hx) (by exact hy) HA.out HD.out HB.out.1 HB.out.2 (by decide) (by decide) (by decide)).mono ?_
  rintro r w1 ⟨Q, cQ, rfl, hQ, hb1⟩
  have HW := Lib.hid hb1
  clear hb1 hx hy
  obtain ⟨lb, hlb⟩ : ∃ lb, lb = qq a d (T - 1) % 2 := ⟨_, rfl⟩
  obtain ⟨b0, hb0⟩ : ∃ b0, b0 = decide (rr a d (T - 1) ≠ 0) := ⟨_, rfl⟩
  obtain ⟨q0, hq0⟩ : ∃ q0, q0 = qq a d T := ⟨_, rfl⟩
  rw [← hlb, ← hb0, ← hq0]
  rw [← hq0] at hQ HV HQB HZ
  clear hlb hb0 hq0
  have HQL : Hid (ln q0 ≤ 2 ∧ q0 < 9007199254740992) := Lib.hid (by
    have h1 := HQB.out
    rw [show (2 : Nat) ^ 53 = 9007199254740992 by decide] at h1
    exact ⟨ln_le (by rw [show (4294967296 : Nat) ^ 2 = 18446744073709551616 by decide]; omega), h1⟩)
  go_wp2_with fail
  refine (rbits_any q0 cQ Q _ (by exact hQ) (by have := HQL.out; omega)).mono ?_
  rintro r w7 ⟨rfl, rfl⟩
  by_cases h0 : q0 = 0
  · have e1 : T = -1074 := HZ.out h0
    have E : Hid (V = 0) := Lib.hid (HV.out.trans (if_pos h0))
    have e2 : ln q0 = 0 := by rw [h0]; exact ln_zero
    have e3 : nbits q0 = 0 := by rw [h0]; rfl
    rw [e3, e2]
    subst e1
    clear h0 e3
    go_wp2_with fail
    refine (rfloat_nil _ _ _ _).mono ?_
    rintro r w8 ⟨rfl, rfl⟩
    go_wp2_with fail
    go_ret
    exact ⟨by rw [E.out]; rfl, HW.out⟩
  · have nb := nbits_log h0
    have HV2 := Lib.hid (HV.out.trans (if_neg h0))
    have lq : q0.log2 < 53 := (Nat.log2_lt h0).2 HQB.out
    have tb3 : (nbits q0 : Int) ≤ 64 := by omega
    by_cases htop : 1024 < (q0.log2 : Int) + 1 + T
    · have E : Hid (V = 9218868437227405311) := Lib.hid (HV2.out.trans (if_pos htop))
      have t2 : (1024 : Int) < (nbits q0 : Int) + T := by omega
      have t3 : decide ((1024 : Int) < (nbits q0 : Int) + T) = true := decide_eq_true t2
      clear htop nb lq h0
      go_wp2_with fail
      go_ret
      exact ⟨by rw [E.out]; rfl, HW.out⟩
    · have E : Hid (V = fl q0 T) := Lib.hid (HV2.out.trans (if_neg htop))
      have t2 : ¬ (1024 : Int) < (nbits q0 : Int) + T := by omega
      have t3 : decide ((1024 : Int) < (nbits q0 : Int) + T) = false := decide_eq_false t2
      have HH := Lib.hid (And.intro h0 (And.intro hTl (show T + q0.log2 ≤ 1023 by omega)))
      clear htop nb lq h0
      go_wp2_with fail
      refine (rfloat_pos q0 T Q cQ _ (by exact hQ) HH.out.1 HQL.out.2 HH.out.2.1 HH.out.2.2).mono ?_
      rintro r w8 ⟨rfl, rfl⟩
      go_wp2_with fail
      go_ret
      exact ⟨by rw [E.out]; rfl, HW.out⟩
end Go.Proofs.YtgpmlhpgdalheaaGreat

namespace Go.Proofs.YtgpmlhpgdalheaaGreat
open Go.RowKit Pl Fl
set_option linter.unusedVariables false
set_option linter.unusedSimpArgs false
theorem Fl.tow_up {n d : Nat} : prnd 53 (-1074) 1024 n d 1 = rnd 53 (-1074) 1024 n d (incW 1 53 (-1074) n d) := by
  unfold prnd
  rw [if_neg (fun h => absurd h.1 (by decide))]
theorem Fl.log2_le_inc {q : Nat} (h : q ≠ 0) (b : Bool) : q.log2 ≤ (q + b.toNat).log2 := by
  refine (Nat.le_log2 (by omega)).2 ?_
  have := Nat.log2_self_le h
  omega
set_option maxRecDepth 100000 in
set_option maxHeartbeats 4000000 in
theorem rtoward_up (a d : Nat) (A D : Option Addr) (cA cD : Nat) (w : World) (hx : Nat32 w A a) (hy : Nat32 w D d) (ha : a ≠ 0) (hd : d ≠ 0) (hbx : ln a ≤ 100000) (hby : ln d ≤ 100000) :
    Calls Tryz.prog 93 #[.slice A (ln a) cA, .slice D (ln d) cD, .bool true] w fun r w' => r = .returned (.float .f64 (prnd 53 (-1074) 1024 a d 1)) ∧ Below w.heap.size w w' := by
  have lx := ln_pos ha
  have t0 : ((ln a : Int) == 0) = false := by rw [beq_eq_false_iff_ne]; omega
  obtain ⟨inc, hinc⟩ : ∃ inc, inc = incW 1 53 (-1074) a d := ⟨_, rfl⟩
  have hIE := incW_one (n := a) hd 53 (-1074)
  have hV1 : prnd 53 (-1074) 1024 a d 1 = rnd 53 (-1074) 1024 a d inc := by rw [hinc]; exact tow_up
  unfold rnd at hV1
  obtain ⟨T, hT⟩ : ∃ T, T = lst 53 (-1074) a d := ⟨_, rfl⟩
  have hTl : -1074 ≤ T := by rw [hT]; unfold lst; omega
  have hTu : T ≤ 3300000 := by have := log2_ln ha; have := log2_ln hd; have := lgq_near a d; rw [hT]; unfold lst; omega
  have hqb : qq a d T < 2 ^ 53 := by rw [hT]; exact lst_lt ha hd
  have hz : qq a d T = 0 → T = -1074 := fun h => by rw [hT] at h ⊢; exact (lst_zero ha hd (by decide) h).1
  rw [← hT, ← hinc] at hIE
  rw [← hT] at hV1
  have HV := Lib.hid hV1
  have HIE := Lib.hid hIE
  have HSP := Lib.hid (rsplit_any a d 53 (-1074) A D cA cD)
  rw [← hT] at HSP
  obtain ⟨V, hV⟩ : ∃ V, V = prnd 53 (-1074) 1024 a d 1 := ⟨_, rfl⟩
  rw [← hV] at HV ⊢
  have HA := Lib.hid ha
  have HD := Lib.hid hd
  have HB := Lib.hid (And.intro hbx hby)
  have HQB := Lib.hid hqb
  have HZ := Lib.hid hz
  clear lx hT hqb hz hV hV1 hIE hinc ha hd hbx hby
  go_enter Tryz.func93, Tryz.ntmps93
  go_wp2_with fail
  refine (HSP.out _ (by exact hx) (by exact hy) HA.out HD.out HB.out.1 HB.out.2 (by decide) (by decide) (by decide)).mono ?_
  rintro r w1 ⟨Q, cQ, rfl, hQ, hb1⟩
  have HW := Lib.hid hb1
  clear hb1 hx hy
  obtain ⟨lb, hlb⟩ : ∃ lb, lb = qq a d (T - 1) % 2 := ⟨_, rfl⟩
  obtain ⟨b0, hb0⟩ : ∃ b0, b0 = decide (rr a d (T - 1) ≠ 0) := ⟨_, rfl⟩
  obtain ⟨q0, hq0⟩ : ∃ q0, q0 = qq a d T := ⟨_, rfl⟩
  rw [← hlb, ← hb0] at HIE
  rw [← hlb, ← hb0, ← hq0]
  rw [← hq0] at hQ HV HQB HZ
  clear hlb hb0 hq0
  have HQL : Hid (ln q0 ≤ 2 ∧ q0 < 9007199254740992) := Lib.hid (by
    have h1 := HQB.out
    rw [show (2 : Nat) ^ 53 = 9007199254740992 by decide] at h1
    exact ⟨ln_le (by rw [show (4294967296 : Nat) ^ 2 = 18446744073709551616 by decide]; omega), h1⟩)
  go_wp2_with fail
  refine (rbits_any q0 cQ Q _ (by exact hQ) (by have := HQL.out; omega)).mono ?_
  rintro r w7 ⟨rfl, rfl⟩
  have tb3 : (nbits q0 : Int) ≤ 64 := by
    by_cases h0 : q0 = 0
    · rw [h0]; decide
    · have nb := nbits_log h0
      have lq : q0.log2 < 53 := (Nat.log2_lt h0).2 HQB.out
      omega
  by_cases htop : 1024 < (nbits q0 : Int) + T
  · have E : Hid (V = 9218868437227405312) := Lib.hid (by
      have h0 : q0 ≠ 0 := fun h => by have := HZ.out h; rw [h, show nbits 0 = 0 from rfl] at htop; omega
      have nb := nbits_log h0
      have := log2_le_inc h0 inc
      exact HV.out.trans ((if_neg (by omega)).trans (if_pos (by omega))))
    have t3 : decide ((1024 : Int) < (nbits q0 : Int) + T) = true := decide_eq_true htop
    go_wp2_with fail
    refine (inf_pos _).mono ?_
    rintro r w8 ⟨rfl, rfl⟩
    go_wp2_with fail
    go_ret
    exact ⟨by rw [E.out]; rfl, HW.out⟩
  · have t3 : decide ((1024 : Int) < (nbits q0 : Int) + T) = false := decide_eq_false htop
    have HNT := Lib.hid htop
    go_upto_region 8 with fail
    go_cut [36] (fun b wx => b = .bool inc ∧ wx = w1)
    case first =>
      by_cases hl : lb = 1
      · have t1 : ((lb : Int) == 1) = true := by rw [beq_iff_eq]; omega
        have e : inc = true := by rw [HIE.out, hl]; rfl
        clear hl
        go_wp2_with fail
        go_meet
        exact ⟨by rw [e], rfl⟩
      · have t1 : ((lb : Int) == 1) = false := by rw [beq_eq_false_iff_ne]; omega
        have e : inc = b0 := by rw [HIE.out, decide_eq_false hl]; rfl
        clear hl
        go_wp2_with fail
        go_meet
        exact ⟨by rw [e], rfl⟩
    case rest =>
    obtain ⟨hc1, hc2⟩ := hcut
    subst hc1
    rw [hc2]
    clear hc2 wc HIE htop t3
    cases inc with
    | false =>
      by_cases h0 : q0 = 0
      · have E : Hid (V = 0) := Lib.hid (HV.out.trans (if_pos (by rw [h0]; rfl)))
        have e2 : ln q0 = 0 := by rw [h0]; exact ln_zero
        rw [e2]
        clear h0
        go_wp2_with fail
        refine (rfloat_nil _ _ _ _).mono ?_
        rintro r w8 ⟨rfl, rfl⟩
        go_wp2_with fail
        go_ret
        exact ⟨by rw [E.out]; rfl, HW.out⟩
      · have nb := nbits_log h0
        have hlt : ¬ 1024 ≤ ((q0 + false.toNat).log2 : Int) + T := by show ¬ 1024 ≤ (q0.log2 : Int) + T; have := HNT.out; omega
        have E : Hid (V = fl q0 T) := Lib.hid (HV.out.trans ((if_neg h0).trans (if_neg hlt)))
        have HH := Lib.hid (And.intro h0 (And.intro hTl (show T + q0.log2 ≤ 1023 by have := HNT.out; omega)))
        clear nb h0 hlt
        go_wp2_with fail
        refine (rfloat_pos q0 T Q cQ _ (by exact hQ) HH.out.1 HQL.out.2 HH.out.2.1 HH.out.2.2).mono ?_
        rintro r w8 ⟨rfl, rfl⟩
        go_wp2_with fail
        go_ret
        exact ⟨by rw [E.out]; rfl, HW.out⟩
    | true =>
      have HV2 : Hid (V = if 1024 ≤ ((q0 + 1).log2 : Int) + T then 9218868437227405312 else fl (q0 + 1) T) := Lib.hid (HV.out.trans (if_neg (by simp)))
      go_wp2_with fail
      refine (radd_one' q0 Q _ cQ _ (by exact hQ.alloc _) (by exact nat1_new _ _) (by have := HQL.out; omega)).mono ?_
      rintro r w2 ⟨M, cM, rfl, hM, hb2⟩
      replace hb2 := unalloc hb2
      have HW := Lib.hid (hstep HW hb2)
      clear hb2 hQ
      have HL1 : Hid (ln (q0 + 1) ≤ 1000) := Lib.hid (Nat.le_trans (ln_add q0 1) (by have := HQL.out; rw [ln_one]; omega))
      go_wp2_with fail
      refine (rbits_any (q0 + 1) cM M _ (by exact hM) (by have := HL1.out; omega)).mono ?_
      rintro r w3 ⟨rfl, rfl⟩
      have HWW := Lib.hid (Below.refl w2.heap.size w2)
      go_upto_if 42 with fail
      go_cut [7, 8] (fun mm ee wx => ∃ (M : Option Addr) (cM v : Nat) (t : Int), mm = .slice M (ln v) cM ∧ ee = .int .i64 t ∧ Hid (v ≠ 0 ∧ T ≤ t ∧ t ≤ T + 1 ∧ v < 2 ^ 53 ∧ (v.log2 : Int) + t = ((q0 + 1).log2 : Int) + T ∧ fl v t = fl (q0 + 1) T) ∧ Nat32 wx M v ∧ Below w2.heap.size w2 wx)
      case first =>
        by_cases hn : q0 + 1 < 2 ^ 53
        · have t1 : ¬ ((53 : Int) < (nbits (q0 + 1) : Int)) := by have := nbits_le.2 hn; omega
          have t2 : decide ((53 : Int) < (nbits (q0 + 1) : Int)) = false := decide_eq_false t1
          have HN := Lib.hid hn
          clear hn
          go_wp2_with fail
          go_meet
          exact ⟨M, cM, q0 + 1, T, rfl, rfl, Lib.hid ⟨by omega, Int.le_refl _, by omega, HN.out, rfl, rfl⟩, hM, Below.refl _ _⟩
        · have t1 : ((53 : Int) < (nbits (q0 + 1) : Int)) := by have := mt nbits_le.1 hn; omega
          have t2 : decide ((53 : Int) < (nbits (q0 + 1) : Int)) = true := decide_eq_true t1
          have HN : Hid (q0 + 1 = 2 ^ (52 + 1)) := Lib.hid (by have := HQB.out; omega)
          clear hn
          go_wp2_with fail
          refine (rshr_any (q0 + 1) 1 M cM _ (by exact hM) (by have := HL1.out; omega) (by omega)).mono ?_
          rintro r w4 ⟨M2, cM2, rfl, hM2, hb4⟩
          rw [Nat.pow_one] at hM2 ⊢
          go_wp2_with fail
          go_meet
          have L := log2_half HN.out
          have p52 : 0 < 2 ^ 52 := Nat.pow_pos (by omega)
          have h0 : (q0 + 1) / 2 ≠ 0 := by rw [L.1]; omega
          exact ⟨M2, cM2, (q0 + 1) / 2, T + 1, rfl, rfl, Lib.hid ⟨h0, by omega, by omega, by rw [L.1]; exact Nat.pow_lt_pow_right (by omega) (by omega), by rw [L.2.2, L.2.1]; omega, by
            have h1 := fl_twice h0 (T + 1)
            rw [← h1, show T + 1 - 1 = T by omega]; congr 1
            rw [L.1, HN.out, Nat.pow_succ, Nat.mul_comm]⟩, hM2, hb4⟩
      case rest =>
      obtain ⟨M', cM', v, t, hc1, hc2, hv, hM', hb5⟩ := hcut
      subst hc1 hc2
      obtain ⟨w5, rfl⟩ : ∃ X : World, X = wc := ⟨_, rfl⟩
      replace HW := Lib.hid (hstep HW hb5)
      clear hb5 hM
      have HNB := Lib.hid (nbits_log hv.out.1)
      have hvb : v < 9007199254740992 := by
        have h1 := hv.out.2.2.2.1
        rw [show (2 : Nat) ^ 53 = 9007199254740992 by decide] at h1; exact h1
      have HVB := Lib.hid hvb
      have HLV : Hid (ln v ≤ 2) := Lib.hid (ln_le (by rw [show (4294967296 : Nat) ^ 2 = 18446744073709551616 by decide]; omega))
      have tb1 : -1074 ≤ t := by have := hv.out; omega
      have tb2 : t ≤ 3300001 := by have := hv.out; omega
      have tb4 : (nbits v : Int) ≤ 64 := by
        have h1 : v.log2 < 53 := (Nat.log2_lt hv.out.1).2 hv.out.2.2.2.1
        have := HNB.out; omega
      clear hvb
      go_wp2_with fail
      refine (rbits_any v cM' M' _ (by exact hM') (by have := HLV.out; omega)).mono ?_
      rintro r w6 ⟨rfl, rfl⟩
      by_cases h2 : 1024 < (nbits v : Int) + t
      · have E : Hid (V = 9218868437227405312) := Lib.hid (HV2.out.trans (if_pos (by have := HNB.out; have := hv.out.2.2.2.2.1; omega)))
        have t2 : decide ((1024 : Int) < (nbits v : Int) + t) = true := decide_eq_true h2
        go_wp2_with fail
        refine (inf_pos _).mono ?_
        rintro r w8 ⟨rfl, rfl⟩
        go_wp2_with fail
        go_ret
        exact ⟨by rw [E.out]; rfl, HW.out⟩
      · have E : Hid (V = fl v t) := Lib.hid (HV2.out.trans ((if_neg (by have := HNB.out; have := hv.out.2.2.2.2.1; omega)).trans hv.out.2.2.2.2.2.symm))
        have t2 : decide ((1024 : Int) < (nbits v : Int) + t) = false := decide_eq_false h2
        have HT3 : Hid (-1074 ≤ t ∧ t + v.log2 ≤ 1023) := Lib.hid ⟨tb1, by have := HNB.out; omega⟩
        have HV0 := Lib.hid hv.out.1
        go_wp2_with fail
        refine (rfloat_pos v t M' cM' _ (by exact hM') HV0.out HVB.out HT3.out.1 HT3.out.2).mono ?_
        rintro r w8 ⟨rfl, rfl⟩
        go_wp2_with fail
        go_ret
        exact ⟨by rw [E.out]; rfl, HW.out⟩
end Go.Proofs.YtgpmlhpgdalheaaGreat

namespace Go.Proofs.YtgpmlhpgdalheaaGreat
open Go.RowKit Pl Fl
set_option linter.unusedVariables false
set_option linter.unusedSimpArgs false
/-- What 'toward' gives. -/
def Fl.twd (a : Int) (d : Nat) (wy : Int) : Nat := if a = 0 then 0 else prnd 53 (-1074) 1024 (ab a) d wy
theorem Fl.twd_le {a : Int} {d : Nat} {wy : Int} (hd : d ≠ 0) : twd a d wy ≤ 9218868437227405312 := by
  unfold twd
  split
  · omega
  · exact prnd_le (by unfold ab; omega) hd (by decide) (by decide) (by decide) (by decide) (by decide)
theorem Fl.srnd_pos {a : Int} {d : Nat} {wy : Int} (h : sn a = false) : srnd 53 (-1074) 1024 a d wy = twd a d wy := by
  unfold srnd twd
  split
  · rfl
  · rw [h, sf_false, if_neg (by decide)]
theorem Fl.srnd_neg {a : Int} {d : Nat} {wy k : Int} (h : sn a = true) (hk : k = 1 - wy) (hw : wy ≠ 2) : srnd 53 (-1074) 1024 a d wy = sf true (twd a d k) := by
  unfold srnd twd
  split
  · exact (if_pos rfl).symm
  · first | rw [h, if_pos rfl, if_neg hw, hk] | rw [h, hk]
theorem rtoward_0 (a : Int) (d : Nat) (A D : Option Addr) (cA cD : Nat) (w : World) (hx : Nat32 w A (ab a)) (hy : Nat32 w D d) (hd : d ≠ 0) (hbx : ln (ab a) ≤ 100000) (hby : ln d ≤ 100000) :
    Calls Tryz.prog 93 #[.slice A (ln (ab a)) cA, .slice D (ln d) cD, .bool false] w fun r w' => r = .returned (.float .f64 (twd a d 0)) ∧ Below w.heap.size w w' := by
  by_cases h0 : a = 0
  · rw [show twd a d 0 = 0 from if_pos h0, show ln (ab a) = 0 by rw [h0]; exact ln_zero]
    exact (rtoward_nil d false A D cA cD w).mono fun r w' h => ⟨h.1, by rw [h.2]; exact Below.refl _ _⟩
  · rw [show twd a d 0 = _ from if_neg h0]
    exact rtoward_down (ab a) d A D cA cD w hx hy (by unfold ab; omega) hd hbx hby
theorem rtoward_1 (a : Int) (d : Nat) (A D : Option Addr) (cA cD : Nat) (w : World) (hx : Nat32 w A (ab a)) (hy : Nat32 w D d) (hd : d ≠ 0) (hbx : ln (ab a) ≤ 100000) (hby : ln d ≤ 100000) :
    Calls Tryz.prog 93 #[.slice A (ln (ab a)) cA, .slice D (ln d) cD, .bool true] w fun r w' => r = .returned (.float .f64 (twd a d 1)) ∧ Below w.heap.size w w' := by
  by_cases h0 : a = 0
  · rw [show twd a d 1 = 0 from if_pos h0, show ln (ab a) = 0 by rw [h0]; exact ln_zero]
    exact (rtoward_nil d true A D cA cD w).mono fun r w' h => ⟨h.1, by rw [h.2]; exact Below.refl _ _⟩
  · rw [show twd a d 1 = _ from if_neg h0]
    exact rtoward_up (ab a) d A D cA cD w hx hy (by unfold ab; omega) hd hbx hby
set_option maxHeartbeats 4000000 in
theorem rbelow_false (x : Cx) (A1 A2 A3 : Option Addr) (cA1 cA2 cA3 : Nat) (w : World) (hx : Num3C w A1 A2 A3 x) (hsx : sz 100000 x) (t1 : sn (na x) = false) :
    Calls Tryz.prog 20 #[.agg #[.bool (sn (na x)), .slice A1 (ln (ab (na x))) cA1, .bool (sn (nb x)), .slice A2 (ln (ab (nb x))) cA2, .slice A3 (ln (nd x)) cA3]] w (fun r w' => r = .returned (.float .f64 (srnd 53 (-1074) 1024 (na x) (nd x) 0)) ∧ Below w.heap.size w w') := by
  obtain ⟨hx1, hx2, hx3⟩ := hx
  have HSX := Lib.hid hsx
  clear hsx
  obtain ⟨V, hV⟩ : ∃ V, V = twd (na x) (nd x) 0 := ⟨_, rfl⟩
  have hle : V ≤ 9218868437227405312 := by rw [hV]; exact twd_le (nd_ne0 x)
  have ES : Hid (srnd 53 (-1074) 1024 (na x) (nd x) 0 = V) := Lib.hid (by rw [hV]; exact srnd_pos t1)
  have HV := Lib.hid hV
  clear hV
  go_enter Tryz.func20, Tryz.ntmps20
  go_wp2_with fail
  obtain ⟨W, hW⟩ : ∃ W : World, W = (w.alloc (.cells #[.bool false, .slice A1 (ln (ab (na x))) cA1, .bool (sn (nb x)), .slice A2 (ln (ab (nb x))) cA2, .slice A3 (ln (nd x)) cA3] 34)) := ⟨_, rfl⟩
  have s0_0 : W.cell? ⟨w.heap.size, 0, none⟩ = some (.bool false) := by subst hW; go_simp
  have s0_1 : W.cell? ⟨w.heap.size, 1, none⟩ = some (.slice A1 (ln (ab (na x))) cA1) := by subst hW; go_simp
  have s0_2 : W.cell? ⟨w.heap.size, 2, none⟩ = some (.bool (sn (nb x))) := by subst hW; go_simp
  have s0_3 : W.cell? ⟨w.heap.size, 3, none⟩ = some (.slice A2 (ln (ab (nb x))) cA2) := by subst hW; go_simp
  have s0_4 : W.cell? ⟨w.heap.size, 4, none⟩ = some (.slice A3 (ln (nd x)) cA3) := by subst hW; go_simp
  have HW : Below w.heap.size w W := by subst hW; exact ((Below.refl w.heap.size w).alloc (Nat.le_refl _) _)
  have l0 : w.heap.size < W.heap.size := by subst hW; simp
  replace hx1 := hx1.to HW
  replace hx2 := hx2.to HW
  replace hx3 := hx3.to HW
  rw [← hW]
  clear hW
  replace HW := Lib.hid HW
  refine (rtoward_0 (na x) (nd x) A1 A3 cA1 cA3 _ (by exact hx1) (by exact hx3) (nd_ne0 x) (by have := HSX.out; unfold sz at this; omega) (by have := HSX.out; unfold sz at this; omega)).mono ?_
  rw [← HV.out]
  rintro r w1 ⟨rfl, hb1⟩
  replace HW := Lib.hid (hstep HW hb1)
  replace s0_0 := keepc hb1 s0_0 l0
  replace s0_1 := keepc hb1 s0_1 l0
  replace s0_2 := keepc hb1 s0_2 l0
  replace s0_3 := keepc hb1 s0_3 l0
  replace s0_4 := keepc hb1 s0_4 l0
  go_wp2_with fail
  go_ret
  exact ⟨by rw [ES.out]; rfl, HW.out⟩

set_option maxHeartbeats 4000000 in
theorem rbelow_true (x : Cx) (A1 A2 A3 : Option Addr) (cA1 cA2 cA3 : Nat) (w : World) (hx : Num3C w A1 A2 A3 x) (hsx : sz 100000 x) (t1 : sn (na x) = true) :
    Calls Tryz.prog 20 #[.agg #[.bool (sn (na x)), .slice A1 (ln (ab (na x))) cA1, .bool (sn (nb x)), .slice A2 (ln (ab (nb x))) cA2, .slice A3 (ln (nd x)) cA3]] w (fun r w' => r = .returned (.float .f64 (srnd 53 (-1074) 1024 (na x) (nd x) 0)) ∧ Below w.heap.size w w') := by
  obtain ⟨hx1, hx2, hx3⟩ := hx
  have HSX := Lib.hid hsx
  clear hsx
  obtain ⟨V, hV⟩ : ∃ V, V = twd (na x) (nd x) 1 := ⟨_, rfl⟩
  have hle : V ≤ 9218868437227405312 := by rw [hV]; exact twd_le (nd_ne0 x)
  have ES : Hid (srnd 53 (-1074) 1024 (na x) (nd x) 0 = sf true V) := Lib.hid (by rw [hV]; exact srnd_neg t1 (by decide) (by decide))
  have HV := Lib.hid hV
  clear hV
  go_enter Tryz.func20, Tryz.ntmps20
  go_wp2_with fail
  obtain ⟨W, hW⟩ : ∃ W : World, W = (w.alloc (.cells #[.bool true, .slice A1 (ln (ab (na x))) cA1, .bool (sn (nb x)), .slice A2 (ln (ab (nb x))) cA2, .slice A3 (ln (nd x)) cA3] 34)) := ⟨_, rfl⟩
  have s0_0 : W.cell? ⟨w.heap.size, 0, none⟩ = some (.bool true) := by subst hW; go_simp
  have s0_1 : W.cell? ⟨w.heap.size, 1, none⟩ = some (.slice A1 (ln (ab (na x))) cA1) := by subst hW; go_simp
  have s0_2 : W.cell? ⟨w.heap.size, 2, none⟩ = some (.bool (sn (nb x))) := by subst hW; go_simp
  have s0_3 : W.cell? ⟨w.heap.size, 3, none⟩ = some (.slice A2 (ln (ab (nb x))) cA2) := by subst hW; go_simp
  have s0_4 : W.cell? ⟨w.heap.size, 4, none⟩ = some (.slice A3 (ln (nd x)) cA3) := by subst hW; go_simp
  have HW : Below w.heap.size w W := by subst hW; exact ((Below.refl w.heap.size w).alloc (Nat.le_refl _) _)
  have l0 : w.heap.size < W.heap.size := by subst hW; simp
  replace hx1 := hx1.to HW
  replace hx2 := hx2.to HW
  replace hx3 := hx3.to HW
  rw [← hW]
  clear hW
  replace HW := Lib.hid HW
  refine (rtoward_1 (na x) (nd x) A1 A3 cA1 cA3 _ (by exact hx1) (by exact hx3) (nd_ne0 x) (by have := HSX.out; unfold sz at this; omega) (by have := HSX.out; unfold sz at this; omega)).mono ?_
  rw [← HV.out]
  rintro r w1 ⟨rfl, hb1⟩
  replace HW := Lib.hid (hstep HW hb1)
  replace s0_0 := keepc hb1 s0_0 l0
  replace s0_1 := keepc hb1 s0_1 l0
  replace s0_2 := keepc hb1 s0_2 l0
  replace s0_3 := keepc hb1 s0_3 l0
  replace s0_4 := keepc hb1 s0_4 l0
  by_cases h0 : V = 0
  · have o1 := ord_00
    have E : Hid (srnd 53 (-1074) 1024 (na x) (nd x) 0 = 0) := Lib.hid (ES.out.trans (if_pos h0))
    rw [h0]
    go_wp2_with fail
    go_ret
    exact ⟨by rw [E.out]; rfl, HW.out⟩
  · have o1 := ord_ne0 hle h0
    have E : Hid (srnd 53 (-1074) 1024 (na x) (nd x) 0 = Op.negFloat .f64 V) := Lib.hid (ES.out.trans (sf_true h0))
    have ng := negf_run V
    clear hle h0
    go_wp2_with fail
    go_ret
    exact ⟨by rw [E.out]; rfl, HW.out⟩

theorem rbelow_any (x : Cx) (A1 A2 A3 : Option Addr) (cA1 cA2 cA3 : Nat) (w : World) (hx : Num3C w A1 A2 A3 x) (hsx : sz 100000 x) :
    Calls Tryz.prog 20 #[.agg #[.bool (sn (na x)), .slice A1 (ln (ab (na x))) cA1, .bool (sn (nb x)), .slice A2 (ln (ab (nb x))) cA2, .slice A3 (ln (nd x)) cA3]] w (fun r w' => r = .returned (.float .f64 (srnd 53 (-1074) 1024 (na x) (nd x) 0)) ∧ Below w.heap.size w w') := by
  cases h : sn (na x) with
  | false => rw [← h]; exact rbelow_false x A1 A2 A3 cA1 cA2 cA3 w hx hsx h
  | true => rw [← h]; exact rbelow_true x A1 A2 A3 cA1 cA2 cA3 w hx hsx h

set_option maxHeartbeats 4000000 in
theorem rabove_false (x : Cx) (A1 A2 A3 : Option Addr) (cA1 cA2 cA3 : Nat) (w : World) (hx : Num3C w A1 A2 A3 x) (hsx : sz 100000 x) (t1 : sn (na x) = false) :
    Calls Tryz.prog 22 #[.agg #[.bool (sn (na x)), .slice A1 (ln (ab (na x))) cA1, .bool (sn (nb x)), .slice A2 (ln (ab (nb x))) cA2, .slice A3 (ln (nd x)) cA3]] w (fun r w' => r = .returned (.float .f64 (srnd 53 (-1074) 1024 (na x) (nd x) 1)) ∧ Below w.heap.size w w') := by
  obtain ⟨hx1, hx2, hx3⟩ := hx
  have HSX := Lib.hid hsx
  clear hsx
  obtain ⟨V, hV⟩ : ∃ V, V = twd (na x) (nd x) 1 := ⟨_, rfl⟩
  have hle : V ≤ 9218868437227405312 := by rw [hV]; exact twd_le (nd_ne0 x)
  have ES : Hid (srnd 53 (-1074) 1024 (na x) (nd x) 1 = V) := Lib.hid (by rw [hV]; exact srnd_pos t1)
  have HV := Lib.hid hV
  clear hV
  go_enter Tryz.func22, Tryz.ntmps22
  go_wp2_with fail
  obtain ⟨W, hW⟩ : ∃ W : World, W = (w.alloc (.cells #[.bool false, .slice A1 (ln (ab (na x))) cA1, .bool (sn (nb x)), .slice A2 (ln (ab (nb x))) cA2, .slice A3 (ln (nd x)) cA3] 34)) := ⟨_, rfl⟩
  have s0_0 : W.cell? ⟨w.heap.size, 0, none⟩ = some (.bool false) := by subst hW; go_simp
  have s0_1 : W.cell? ⟨w.heap.size, 1, none⟩ = some (.slice A1 (ln (ab (na x))) cA1) := by subst hW; go_simp
  have s0_2 : W.cell? ⟨w.heap.size, 2, none⟩ = some (.bool (sn (nb x))) := by subst hW; go_simp
  have s0_3 : W.cell? ⟨w.heap.size, 3, none⟩ = some (.slice A2 (ln (ab (nb x))) cA2) := by subst hW; go_simp
  have s0_4 : W.cell? ⟨w.heap.size, 4, none⟩ = some (.slice A3 (ln (nd x)) cA3) := by subst hW; go_simp
  have HW : Below w.heap.size w W := by subst hW; exact ((Below.refl w.heap.size w).alloc (Nat.le_refl _) _)
  have l0 : w.heap.size < W.heap.size := by subst hW; simp
  replace hx1 := hx1.to HW
  replace hx2 := hx2.to HW
  replace hx3 := hx3.to HW
  rw [← hW]
  clear hW
  replace HW := Lib.hid HW
  refine (rtoward_1 (na x) (nd x) A1 A3 cA1 cA3 _ (by exact hx1) (by exact hx3) (nd_ne0 x) (by have := HSX.out; unfold sz at this; omega) (by have := HSX.out; unfold sz at this; omega)).mono ?_
  rw [← HV.out]
  rintro r w1 ⟨rfl, hb1⟩
  replace HW := Lib.hid (hstep HW hb1)
  replace s0_0 := keepc hb1 s0_0 l0
  replace s0_1 := keepc hb1 s0_1 l0
  replace s0_2 := keepc hb1 s0_2 l0
  replace s0_3 := keepc hb1 s0_3 l0
  replace s0_4 := keepc hb1 s0_4 l0
  go_wp2_with fail
  go_ret
  exact ⟨by rw [ES.out]; rfl, HW.out⟩

set_option maxHeartbeats 4000000 in
theorem rabove_true (x : Cx) (A1 A2 A3 : Option Addr) (cA1 cA2 cA3 : Nat) (w : World) (hx : Num3C w A1 A2 A3 x) (hsx : sz 100000 x) (t1 : sn (na x) = true) :
    Calls Tryz.prog 22 #[.agg #[.bool (sn (na x)), .slice A1 (ln (ab (na x))) cA1, .bool (sn (nb x)), .slice A2 (ln (ab (nb x))) cA2, .slice A3 (ln (nd x)) cA3]] w (fun r w' => r = .returned (.float .f64 (srnd 53 (-1074) 1024 (na x) (nd x) 1)) ∧ Below w.heap.size w w') := by
  obtain ⟨hx1, hx2, hx3⟩ := hx
  have HSX := Lib.hid hsx
  clear hsx
  obtain ⟨V, hV⟩ : ∃ V, V = twd (na x) (nd x) 0 := ⟨_, rfl⟩
  have hle : V ≤ 9218868437227405312 := by rw [hV]; exact twd_le (nd_ne0 x)
  have ES : Hid (srnd 53 (-1074) 1024 (na x) (nd x) 1 = sf true V) := Lib.hid (by rw [hV]; exact srnd_neg t1 (by decide) (by decide))
  have HV := Lib.hid hV
  clear hV
  go_enter Tryz.func22, Tryz.ntmps22
  go_wp2_with fail
  obtain ⟨W, hW⟩ : ∃ W : World, W = (w.alloc (.cells #[.bool true, .slice A1 (ln (ab (na x))) cA1, .bool (sn (nb x)), .slice A2 (ln (ab (nb x))) cA2, .slice A3 (ln (nd x)) cA3] 34)) := ⟨_, rfl⟩
  have s0_0 : W.cell? ⟨w.heap.size, 0, none⟩ = some (.bool true) := by subst hW; go_simp
  have s0_1 : W.cell? ⟨w.heap.size, 1, none⟩ = some (.slice A1 (ln (ab (na x))) cA1) := by subst hW; go_simp
  have s0_2 : W.cell? ⟨w.heap.size, 2, none⟩ = some (.bool (sn (nb x))) := by subst hW; go_simp
  have s0_3 : W.cell? ⟨w.heap.size, 3, none⟩ = some (.slice A2 (ln (ab (nb x))) cA2) := by subst hW; go_simp
  have s0_4 : W.cell? ⟨w.heap.size, 4, none⟩ = some (.slice A3 (ln (nd x)) cA3) := by subst hW; go_simp
  have HW : Below w.heap.size w W := by subst hW; exact ((Below.refl w.heap.size w).alloc (Nat.le_refl _) _)
  have l0 : w.heap.size < W.heap.size := by subst hW; simp
  replace hx1 := hx1.to HW
  replace hx2 := hx2.to HW
  replace hx3 := hx3.to HW
  rw [← hW]
  clear hW
  replace HW := Lib.hid HW
  refine (rtoward_0 (na x) (nd x) A1 A3 cA1 cA3 _ (by exact hx1) (by exact hx3) (nd_ne0 x) (by have := HSX.out; unfold sz at this; omega) (by have := HSX.out; unfold sz at this; omega)).mono ?_
  rw [← HV.out]
  rintro r w1 ⟨rfl, hb1⟩
  replace HW := Lib.hid (hstep HW hb1)
  replace s0_0 := keepc hb1 s0_0 l0
  replace s0_1 := keepc hb1 s0_1 l0
  replace s0_2 := keepc hb1 s0_2 l0
  replace s0_3 := keepc hb1 s0_3 l0
  replace s0_4 := keepc hb1 s0_4 l0
  by_cases h0 : V = 0
  · have o1 := ord_00
    have E : Hid (srnd 53 (-1074) 1024 (na x) (nd x) 1 = 0) := Lib.hid (ES.out.trans (if_pos h0))
    rw [h0]
    go_wp2_with fail
    go_ret
    exact ⟨by rw [E.out]; rfl, HW.out⟩
  · have o1 := ord_ne0 hle h0
    have E : Hid (srnd 53 (-1074) 1024 (na x) (nd x) 1 = Op.negFloat .f64 V) := Lib.hid (ES.out.trans (sf_true h0))
    have ng := negf_run V
    clear hle h0
    go_wp2_with fail
    go_ret
    exact ⟨by rw [E.out]; rfl, HW.out⟩

theorem rabove_any (x : Cx) (A1 A2 A3 : Option Addr) (cA1 cA2 cA3 : Nat) (w : World) (hx : Num3C w A1 A2 A3 x) (hsx : sz 100000 x) :
    Calls Tryz.prog 22 #[.agg #[.bool (sn (na x)), .slice A1 (ln (ab (na x))) cA1, .bool (sn (nb x)), .slice A2 (ln (ab (nb x))) cA2, .slice A3 (ln (nd x)) cA3]] w (fun r w' => r = .returned (.float .f64 (srnd 53 (-1074) 1024 (na x) (nd x) 1)) ∧ Below w.heap.size w w') := by
  cases h : sn (na x) with
  | false => rw [← h]; exact rabove_false x A1 A2 A3 cA1 cA2 cA3 w hx hsx h
  | true => rw [← h]; exact rabove_true x A1 A2 A3 cA1 cA2 cA3 w hx hsx h

end Go.Proofs.YtgpmlhpgdalheaaGreat

namespace Go.Proofs.YtgpmlhpgdalheaaGreat
open Go.RowKit Pl Fl
set_option linter.unusedVariables false
set_option linter.unusedSimpArgs false
def Fl.to32 (X : Nat) : Nat := (floatToFloatBits .f64 X .f32).getD 0
theorem conv_32 (a : Int) {d : Nat} (hd : d ≠ 0) (w : World) : (convert 44 47 (.float .f64 (srnd 24 (-149) 128 a d 2))).run Tryz.prog w = .ok (.float .f32 (to32 (srnd 24 (-149) 128 a d 2))) w := by
  obtain ⟨r, hr⟩ := conv32_srnd a hd
  rw [run_convert_float_float w _ _ .f64 .f32 _ r (by kernel_rfl) Tryz.underlying47 hr]
  unfold to32; rw [hr]; rfl
set_option maxHeartbeats 4000000 in
theorem near64_any (x : Cx) (A1 A2 A3 : Option Addr) (w : World) (hx : Num3 w A1 A2 A3 x) (hsz : sz 100000 x) :
    Calls Tryz.prog 15 #[.agg #[.bool (sn (na x)), .slice A1 (ln (ab (na x))) (ln (ab (na x))), .bool (sn (nb x)), .slice A2 (ln (ab (nb x))) (ln (ab (nb x))), .slice A3 (ln (un x)) (ln (un x))]] w (fun e w' => e = .returned (.complex .f32 (to32 (srnd 24 (-149) 128 (na x) (nd x) 2)) (to32 (srnd 24 (-149) 128 (nb x) (nd x) 2))) ∧ Below w.heap.size w w') := by
  have HSX := Lib.hid hsz
  clear hsz
  have c1 := conv_32 (na x) (nd_ne0 x)
  have c2 := conv_32 (nb x) (nd_ne0 x)
  go_enter Tryz.func15, Tryz.ntmps15
  go_wp2_with fail
  obtain ⟨W, hW⟩ : ∃ W : World, W = (w.alloc (.cells #[.bool (sn (na x)), .slice A1 (ln (ab (na x))) (ln (ab (na x))), .bool (sn (nb x)), .slice A2 (ln (ab (nb x))) (ln (ab (nb x))), .slice A3 (ln (un x)) (ln (un x))] 30)) := ⟨_, rfl⟩
  have s0_0 : W.cell? ⟨w.heap.size, 0, none⟩ = some (.bool (sn (na x))) := by subst hW; go_simp
  have s0_1 : W.cell? ⟨w.heap.size, 1, none⟩ = some (.slice A1 (ln (ab (na x))) (ln (ab (na x)))) := by subst hW; go_simp
  have s0_2 : W.cell? ⟨w.heap.size, 2, none⟩ = some (.bool (sn (nb x))) := by subst hW; go_simp
  have s0_3 : W.cell? ⟨w.heap.size, 3, none⟩ = some (.slice A2 (ln (ab (nb x))) (ln (ab (nb x)))) := by subst hW; go_simp
  have s0_4 : W.cell? ⟨w.heap.size, 4, none⟩ = some (.slice A3 (ln (un x)) (ln (un x))) := by subst hW; go_simp
  have HW : Below w.heap.size w W := by subst hW; exact ((Below.refl w.heap.size w).alloc (Nat.le_refl _) _)
  have l0 : w.heap.size < W.heap.size := by subst hW; simp
  replace hx := hx.to HW
  rw [← hW]
  clear hW
  replace HW := Lib.hid HW
  go_region_held3 (fun w' => w'.cell? ⟨w.heap.size, 0, none⟩ = some (.bool (sn (na x))) ∧ w'.cell? ⟨w.heap.size, 1, none⟩ = some (.slice A1 (ln (ab (na x))) (ln (ab (na x)))) ∧ w'.cell? ⟨w.heap.size, 2, none⟩ = some (.bool (sn (nb x))) ∧ w'.cell? ⟨w.heap.size, 3, none⟩ = some (.slice A2 (ln (ab (nb x))) (ln (ab (nb x)))) ∧ w'.cell? ⟨w.heap.size, 4, none⟩ = some (.slice A3 (ln (un x)) (ln (un x)))) (first | with_reducible exact ⟨s0_0, s0_1, s0_2, s0_3, s0_4⟩ | with_reducible exact ⟨s0_0, s0_1, s0_2, s0_3, s0_4⟩ | exact ⟨s0_0, s0_1, s0_2, s0_3, s0_4⟩) (first
    | (have _ := m5; go_at_call 88; refine (signed_single (nb x) (nd x) 2 A2 D2 _ (by exact hx.2.1) (by exact hD2) (by omega) (nd_ne0 x) (by have := HSX.out; unfold sz at this; omega) (by have := HSX.out; unfold sz at this; omega)).mono ?_; rintro e w6 ⟨rfl, hb6⟩; replace s0_0 := keepc hb6 s0_0 l0; replace s0_1 := keepc hb6 s0_1 l0; replace s0_2 := keepc hb6 s0_2 l0; replace s0_3 := keepc hb6 s0_3 l0; replace s0_4 := keepc hb6 s0_4 l0; replace l0 := Nat.lt_of_lt_of_le l0 hb6.size; replace hx := hx.to hb6; replace hD := hD.to hb6; replace hD2 := hD2.to hb6; replace HW := Lib.hid (hstep HW hb6); clear hb6; have m6 : True := trivial)
    | (have _ := m4; go_at_call 89; refine (den_any x A1 A2 A3 _ (by exact hx)).mono ?_; rintro e w5 ⟨D2, rfl, hD2, hb5⟩; replace s0_0 := keepc hb5 s0_0 l0; replace s0_1 := keepc hb5 s0_1 l0; replace s0_2 := keepc hb5 s0_2 l0; replace s0_3 := keepc hb5 s0_3 l0; replace s0_4 := keepc hb5 s0_4 l0; replace l0 := Nat.lt_of_lt_of_le l0 hb5.size; replace hx := hx.to hb5; replace hD := hD.to hb5; replace HW := Lib.hid (hstep HW hb5); clear hb5; have m5 : True := trivial)
    | (have _ := m3; go_at_call 91; refine (single_fmt _).mono ?_; rintro e w4 ⟨rfl, hb4⟩; replace s0_0 := keepc hb4 s0_0 l0; replace s0_1 := keepc hb4 s0_1 l0; replace s0_2 := keepc hb4 s0_2 l0; replace s0_3 := keepc hb4 s0_3 l0; replace s0_4 := keepc hb4 s0_4 l0; replace l0 := Nat.lt_of_lt_of_le l0 hb4.size; replace hx := hx.to hb4; replace hD := hD.to hb4; replace HW := Lib.hid (hstep HW hb4); clear hb4; have m4 : True := trivial)
    | (have _ := m2; go_at_call 88; refine (signed_single (na x) (nd x) 2 A1 D _ (by exact hx.1) (by exact hD) (by omega) (nd_ne0 x) (by have := HSX.out; unfold sz at this; omega) (by have := HSX.out; unfold sz at this; omega)).mono ?_; rintro e w3 ⟨rfl, hb3⟩; replace s0_0 := keepc hb3 s0_0 l0; replace s0_1 := keepc hb3 s0_1 l0; replace s0_2 := keepc hb3 s0_2 l0; replace s0_3 := keepc hb3 s0_3 l0; replace s0_4 := keepc hb3 s0_4 l0; replace l0 := Nat.lt_of_lt_of_le l0 hb3.size; replace hx := hx.to hb3; replace hD := hD.to hb3; replace HW := Lib.hid (hstep HW hb3); clear hb3; have m3 : True := trivial)
    | (have _ := m1; go_at_call 89; refine (den_any x A1 A2 A3 _ (by exact hx)).mono ?_; rintro e w2 ⟨D, rfl, hD, hb2⟩; replace s0_0 := keepc hb2 s0_0 l0; replace s0_1 := keepc hb2 s0_1 l0; replace s0_2 := keepc hb2 s0_2 l0; replace s0_3 := keepc hb2 s0_3 l0; replace s0_4 := keepc hb2 s0_4 l0; replace l0 := Nat.lt_of_lt_of_le l0 hb2.size; replace hx := hx.to hb2; replace HW := Lib.hid (hstep HW hb2); clear hb2; have m2 : True := trivial)
    | (go_at_call 91; refine (single_fmt _).mono ?_; rintro e w1 ⟨rfl, hb1⟩; have hb1 := undrew hb1; replace s0_0 := keepc hb1 s0_0 l0; replace s0_1 := keepc hb1 s0_1 l0; replace s0_2 := keepc hb1 s0_2 l0; replace s0_3 := keepc hb1 s0_3 l0; replace s0_4 := keepc hb1 s0_4 l0; replace l0 := Nat.lt_of_lt_of_le l0 hb1.size; replace hx := hx.to hb1; replace HW := Lib.hid (hstep HW hb1); clear hb1; have m1 : True := trivial))
  go_wp2_with fail
  go_ret
  exact ⟨rfl, HW.out⟩

set_option maxHeartbeats 4000000 in
theorem rnear64_any (x : Cx) (A1 A2 A3 : Option Addr) (cA1 cA2 cA3 : Nat) (w : World) (hx : Num3C w A1 A2 A3 x) (hsx : sz 100000 x) :
    Calls Tryz.prog 16 #[.agg #[.bool (sn (na x)), .slice A1 (ln (ab (na x))) cA1, .bool (sn (nb x)), .slice A2 (ln (ab (nb x))) cA2, .slice A3 (ln (nd x)) cA3]] w (fun e w' => e = .returned (.complex .f32 (to32 (srnd 24 (-149) 128 (na x) (nd x) 2)) (to32 (srnd 24 (-149) 128 (nb x) (nd x) 2))) ∧ Below w.heap.size w w') := by
  obtain ⟨hx1, hx2, hx3⟩ := hx
  have HSX := Lib.hid hsx
  clear hsx
  have c1 := conv_32 (na x) (nd_ne0 x)
  have c2 := conv_32 (nb x) (nd_ne0 x)
  go_enter Tryz.func16, Tryz.ntmps16
  go_wp2_with fail
  obtain ⟨W, hW⟩ : ∃ W : World, W = (w.alloc (.cells #[.bool (sn (na x)), .slice A1 (ln (ab (na x))) cA1, .bool (sn (nb x)), .slice A2 (ln (ab (nb x))) cA2, .slice A3 (ln (nd x)) cA3] 34)) := ⟨_, rfl⟩
  have s0_0 : W.cell? ⟨w.heap.size, 0, none⟩ = some (.bool (sn (na x))) := by subst hW; go_simp
  have s0_1 : W.cell? ⟨w.heap.size, 1, none⟩ = some (.slice A1 (ln (ab (na x))) cA1) := by subst hW; go_simp
  have s0_2 : W.cell? ⟨w.heap.size, 2, none⟩ = some (.bool (sn (nb x))) := by subst hW; go_simp
  have s0_3 : W.cell? ⟨w.heap.size, 3, none⟩ = some (.slice A2 (ln (ab (nb x))) cA2) := by subst hW; go_simp
  have s0_4 : W.cell? ⟨w.heap.size, 4, none⟩ = some (.slice A3 (ln (nd x)) cA3) := by subst hW; go_simp
  have HW : Below w.heap.size w W := by subst hW; exact ((Below.refl w.heap.size w).alloc (Nat.le_refl _) _)
  have l0 : w.heap.size < W.heap.size := by subst hW; simp
  replace hx1 := hx1.to HW
  replace hx2 := hx2.to HW
  replace hx3 := hx3.to HW
  rw [← hW]
  clear hW
  replace HW := Lib.hid HW
  go_region_held3 (fun w' => w'.cell? ⟨w.heap.size, 0, none⟩ = some (.bool (sn (na x))) ∧ w'.cell? ⟨w.heap.size, 1, none⟩ = some (.slice A1 (ln (ab (na x))) cA1) ∧ w'.cell? ⟨w.heap.size, 2, none⟩ = some (.bool (sn (nb x))) ∧ w'.cell? ⟨w.heap.size, 3, none⟩ = some (.slice A2 (ln (ab (nb x))) cA2) ∧ w'.cell? ⟨w.heap.size, 4, none⟩ = some (.slice A3 (ln (nd x)) cA3)) (first | with_reducible exact ⟨s0_0, s0_1, s0_2, s0_3, s0_4⟩ | with_reducible exact ⟨s0_0, s0_1, s0_2, s0_3, s0_4⟩ | exact ⟨s0_0, s0_1, s0_2, s0_3, s0_4⟩) (first
    | (have _ := m1; go_at_call 90; refine (rnear_single (nb x) (nd x) A2 A3 cA2 cA3 _ (by exact hx2) (by exact hx3) (nd_ne0 x) (by have := HSX.out; unfold sz at this; omega) (by have := HSX.out; unfold sz at this; omega)).mono ?_; rintro e w2 ⟨rfl, hb2⟩; replace s0_0 := keepc hb2 s0_0 l0; replace s0_1 := keepc hb2 s0_1 l0; replace s0_2 := keepc hb2 s0_2 l0; replace s0_3 := keepc hb2 s0_3 l0; replace s0_4 := keepc hb2 s0_4 l0; replace l0 := Nat.lt_of_lt_of_le l0 hb2.size; replace hx1 := hx1.to hb2; replace hx2 := hx2.to hb2; replace hx3 := hx3.to hb2; replace HW := Lib.hid (hstep HW hb2); clear hb2; have m2 : True := trivial)
    | (go_at_call 90; refine (rnear_single (na x) (nd x) A1 A3 cA1 cA3 _ (by exact hx1) (by exact hx3) (nd_ne0 x) (by have := HSX.out; unfold sz at this; omega) (by have := HSX.out; unfold sz at this; omega)).mono ?_; rintro e w1 ⟨rfl, hb1⟩; have hb1 := undrew hb1; replace s0_0 := keepc hb1 s0_0 l0; replace s0_1 := keepc hb1 s0_1 l0; replace s0_2 := keepc hb1 s0_2 l0; replace s0_3 := keepc hb1 s0_3 l0; replace s0_4 := keepc hb1 s0_4 l0; replace l0 := Nat.lt_of_lt_of_le l0 hb1.size; replace hx1 := hx1.to hb1; replace hx2 := hx2.to hb1; replace hx3 := hx3.to hb1; replace HW := Lib.hid (hstep HW hb1); clear hb1; have m1 : True := trivial))
  go_wp2_with fail
  go_ret
  exact ⟨rfl, HW.out⟩

end Go.Proofs.YtgpmlhpgdalheaaGreat

namespace Go.Proofs.YtgpmlhpgdalheaaGreat
open Go.RowKit Pl Fl
set_option linter.unusedVariables false
set_option linter.unusedSimpArgs false
set_option maxRecDepth 100000 in
theorem samef_any (X : Nat) (w : World) : Calls Tryz.prog 17 #[.float .f64 X, .float .f64 X] w fun r w' => r = .returned (.bool true) ∧ w' = w := by
  have t : ((X : Int) == (X : Int)) = true := beq_self_eq_true _
  have g2 := f64bits
  go_enter Tryz.func17, Tryz.ntmps17
  go_wp2_with fail
  go_ret
  exact ⟨rfl, rfl⟩
theorem f32bits (x : Nat) (w : World) : (callFunc 18 #[.float .f32 x]).run Tryz.prog w = .ok (.value (.int .u32 x)) w := by kernel_rfl
end Go.Proofs.YtgpmlhpgdalheaaGreat
