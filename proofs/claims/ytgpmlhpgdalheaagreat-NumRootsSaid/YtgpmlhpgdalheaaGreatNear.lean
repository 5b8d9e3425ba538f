/- 'signed', 'Near' at one number. -/
import Derived.Test.YtgpmlhpgdalheaaGreatRound
namespace Go.Proofs.YtgpmlhpgdalheaaGreat
open Go.RowKit Pl
set_option linter.unusedVariables false
set_option linter.unusedSimpArgs false

set_option maxHeartbeats 4000000 in
theorem double_any (w : World) :
    Calls Tryz.prog 87 #[] w (fun e w' => e = .returned (.agg #[.int .i64 53, .int .i64 (-1074), .int .i64 1023]) ∧ Below w.heap.size w w') := by
  go_enter Tryz.func87, Tryz.ntmps87
  go_wp2
  exact bodyPost_ret (v := .agg #[.int .i64 53, .int .i64 (-1074), .int .i64 1023]) (by simp [results, Tryz.results87, go_sem]) rfl ⟨rfl, (Below.refl _ _).alloc (Nat.le_refl _) _⟩

set_option maxHeartbeats 4000000 in
theorem signed_a (x : Int) (d : Nat) (A D : Option Addr) (w : World) (hv : x = 1) (hd : d = 10) (hx : Nat32 w A (ab x)) (hy : Nat32 w D d) :
    Calls Tryz.prog 88 #[.agg #[.int .i64 53, .int .i64 (-1074), .int .i64 1023], .agg #[.bool (sn (x)), .slice A (ln (ab (x))) (ln (ab (x)))], .slice D (ln d) (ln d), .int .i64 2] w (fun e w' => e = .returned (.float .f64 4591870180066957722) ∧ Below w.heap.size w w') := by
  have t1 : sn x = false := by rw [hv]; decide
  have E1 : Hid (ab x = 1) := Lib.hid (by rw [hv]; decide)
  have E2 := Lib.hid hd
  clear hv hd
  go_enter Tryz.func88, Tryz.ntmps88
  go_wp2_with fail
  obtain ⟨W, hW⟩ : ∃ W : World, W = ((w.alloc (.cells #[.int .i64 53, .int .i64 (-1074), .int .i64 1023] 126)).alloc (.cells #[.bool false, .slice A (ln (ab x)) (ln (ab x))] 28)) := ⟨_, rfl⟩
  have s0_0 : W.cell? ⟨w.heap.size, 0, none⟩ = some (.int .i64 53) := by subst hW; go_simp
  have s0_1 : W.cell? ⟨w.heap.size, 1, none⟩ = some (.int .i64 (-1074)) := by subst hW; go_simp
  have s0_2 : W.cell? ⟨w.heap.size, 2, none⟩ = some (.int .i64 1023) := by subst hW; go_simp
  have s1_0 : W.cell? ⟨w.heap.size + 1, 0, none⟩ = some (.bool false) := by subst hW; go_simp
  have s1_1 : W.cell? ⟨w.heap.size + 1, 1, none⟩ = some (.slice A (ln (ab x)) (ln (ab x))) := by subst hW; go_simp
  have HW : Below w.heap.size w W := by subst hW; exact (((Below.refl w.heap.size w).alloc (Nat.le_refl _) _).alloc (by simp) _)
  have l0 : w.heap.size < W.heap.size := by subst hW; simp <;> omega
  have l1 : w.heap.size + 1 < W.heap.size := by subst hW; simp
  replace hx := hx.to HW
  replace hy := hy.to HW
  rw [← hW]
  clear hW
  replace HW := Lib.hid HW
  refine (round_a (ab x) d A D _ E1.out E2.out (by exact hx) (by exact hy)).mono ?_
  rintro e w1 ⟨rfl, hb1⟩
  replace HW := Lib.hid (hstep HW hb1)
  go_wp2_with fail
  exact bodyPost_ret (v := .float .f64 4591870180066957722) (by simp [results, Tryz.results88, go_sem]) rfl ⟨rfl, HW.out⟩

set_option maxHeartbeats 4000000 in
theorem signed_b (x : Int) (d : Nat) (A D : Option Addr) (w : World) (hv : x = 7) (hd : d = 10) (hx : Nat32 w A (ab x)) (hy : Nat32 w D d) :
    Calls Tryz.prog 88 #[.agg #[.int .i64 53, .int .i64 (-1074), .int .i64 1023], .agg #[.bool (sn (x)), .slice A (ln (ab (x))) (ln (ab (x)))], .slice D (ln d) (ln d), .int .i64 2] w (fun e w' => e = .returned (.float .f64 4604480259023595110) ∧ Below w.heap.size w w') := by
  have t1 : sn x = false := by rw [hv]; decide
  have E1 : Hid (ab x = 7) := Lib.hid (by rw [hv]; decide)
  have E2 := Lib.hid hd
  clear hv hd
  go_enter Tryz.func88, Tryz.ntmps88
  go_wp2_with fail
  obtain ⟨W, hW⟩ : ∃ W : World, W = ((w.alloc (.cells #[.int .i64 53, .int .i64 (-1074), .int .i64 1023] 126)).alloc (.cells #[.bool false, .slice A (ln (ab x)) (ln (ab x))] 28)) := ⟨_, rfl⟩
  have s0_0 : W.cell? ⟨w.heap.size, 0, none⟩ = some (.int .i64 53) := by subst hW; go_simp
  have s0_1 : W.cell? ⟨w.heap.size, 1, none⟩ = some (.int .i64 (-1074)) := by subst hW; go_simp
  have s0_2 : W.cell? ⟨w.heap.size, 2, none⟩ = some (.int .i64 1023) := by subst hW; go_simp
  have s1_0 : W.cell? ⟨w.heap.size + 1, 0, none⟩ = some (.bool false) := by subst hW; go_simp
  have s1_1 : W.cell? ⟨w.heap.size + 1, 1, none⟩ = some (.slice A (ln (ab x)) (ln (ab x))) := by subst hW; go_simp
  have HW : Below w.heap.size w W := by subst hW; exact (((Below.refl w.heap.size w).alloc (Nat.le_refl _) _).alloc (by simp) _)
  have l0 : w.heap.size < W.heap.size := by subst hW; simp <;> omega
  have l1 : w.heap.size + 1 < W.heap.size := by subst hW; simp
  replace hx := hx.to HW
  replace hy := hy.to HW
  rw [← hW]
  clear hW
  replace HW := Lib.hid HW
  refine (round_b (ab x) d A D _ E1.out E2.out (by exact hx) (by exact hy)).mono ?_
  rintro e w1 ⟨rfl, hb1⟩
  replace HW := Lib.hid (hstep HW hb1)
  go_wp2_with fail
  exact bodyPost_ret (v := .float .f64 4604480259023595110) (by simp [results, Tryz.results88, go_sem]) rfl ⟨rfl, HW.out⟩

set_option maxHeartbeats 4000000 in
theorem near_a (x : Cx) (A1 A2 A3 : Option Addr) (w : World) (h1 : na x = 1) (h2 : nb x = 7) (h3 : nd x = 10) (hx : Num3 w A1 A2 A3 x) :
    Calls Tryz.prog 13 #[.agg #[.bool (sn (na x)), .slice A1 (ln (ab (na x))) (ln (ab (na x))), .bool (sn (nb x)), .slice A2 (ln (ab (nb x))) (ln (ab (nb x))), .slice A3 (ln (un x)) (ln (un x))]] w (fun e w' => e = .returned (.complex .f64 4591870180066957722 4604480259023595110) ∧ Below w.heap.size w w') := by
  have E1 := Lib.hid h1
  have E2 := Lib.hid h2
  have E3 := Lib.hid h3
  clear h1 h2 h3
  go_enter Tryz.func13, Tryz.ntmps13
  go_wp2_with fail
  obtain ⟨W, hW⟩ : ∃ W : World, W = (w.alloc (.cells #[.bool (sn (na x)), .slice A1 (ln (ab (na x))) (ln (ab (na x))), .bool (sn (nb x)), .slice A2 (ln (ab (nb x))) (ln (ab (nb x))), .slice A3 (ln (un x)) (ln (un x))] 30)) := ⟨_, rfl⟩
  have s0_0 : W.cell? ⟨w.heap.size, 0, none⟩ = some (.bool (sn (na x))) := by subst hW; go_simp
  have s0_1 : W.cell? ⟨w.heap.size, 1, none⟩ = some (.slice A1 (ln (ab (na x))) (ln (ab (na x)))) := by subst hW; go_simp
  have s0_2 : W.cell? ⟨w.heap.size, 2, none⟩ = some (.bool (sn (nb x))) := by subst hW; go_simp
  have s0_3 : W.cell? ⟨w.heap.size, 3, none⟩ = some (.slice A2 (ln (ab (nb x))) (ln (ab (nb x)))) := by subst hW; go_simp
  have s0_4 : W.cell? ⟨w.heap.size, 4, none⟩ = some (.slice A3 (ln (un x)) (ln (un x))) := by subst hW; go_simp
  have HW : Below w.heap.size w W := by subst hW; exact ((Below.refl w.heap.size w).alloc (Nat.le_refl _) _)
  have l0 : w.heap.size < W.heap.size := by subst hW; simp
  replace hx := hx.to HW
  rw [← hW]
  clear hW
  replace HW := Lib.hid HW
  go_region_held3 (fun w' => w'.cell? ⟨w.heap.size, 0, none⟩ = some (.bool (sn (na x))) ∧ w'.cell? ⟨w.heap.size, 1, none⟩ = some (.slice A1 (ln (ab (na x))) (ln (ab (na x)))) ∧ w'.cell? ⟨w.heap.size, 2, none⟩ = some (.bool (sn (nb x))) ∧ w'.cell? ⟨w.heap.size, 3, none⟩ = some (.slice A2 (ln (ab (nb x))) (ln (ab (nb x)))) ∧ w'.cell? ⟨w.heap.size, 4, none⟩ = some (.slice A3 (ln (un x)) (ln (un x)))) (first | with_reducible exact ⟨s0_0, s0_1, s0_2, s0_3, s0_4⟩ | with_reducible exact ⟨s0_0, s0_1, s0_2, s0_3, s0_4⟩ | exact ⟨s0_0, s0_1, s0_2, s0_3, s0_4⟩) (first
    | (have _ := m5; go_at_call 88; refine (signed_b (nb x) (nd x) A2 D2 _ E2.out E3.out (by exact hx.2.1) (by exact hD2)).mono ?_; rintro e w6 ⟨rfl, hb6⟩; replace s0_0 := keepc hb6 s0_0 l0; replace s0_1 := keepc hb6 s0_1 l0; replace s0_2 := keepc hb6 s0_2 l0; replace s0_3 := keepc hb6 s0_3 l0; replace s0_4 := keepc hb6 s0_4 l0; replace l0 := Nat.lt_of_lt_of_le l0 hb6.size; replace hx := hx.to hb6; replace hD := hD.to hb6; replace hD2 := hD2.to hb6; replace HW := Lib.hid (hstep HW hb6); clear hb6; have m6 : True := trivial)
    | (have _ := m4; go_at_call 89; refine (den_any x A1 A2 A3 _ (by exact hx)).mono ?_; rintro e w5 ⟨D2, rfl, hD2, hb5⟩; replace s0_0 := keepc hb5 s0_0 l0; replace s0_1 := keepc hb5 s0_1 l0; replace s0_2 := keepc hb5 s0_2 l0; replace s0_3 := keepc hb5 s0_3 l0; replace s0_4 := keepc hb5 s0_4 l0; replace l0 := Nat.lt_of_lt_of_le l0 hb5.size; replace hx := hx.to hb5; replace hD := hD.to hb5; replace HW := Lib.hid (hstep HW hb5); clear hb5; have m5 : True := trivial)
    | (have _ := m3; go_at_call 87; refine (double_any _).mono ?_; rintro e w4 ⟨rfl, hb4⟩; replace s0_0 := keepc hb4 s0_0 l0; replace s0_1 := keepc hb4 s0_1 l0; replace s0_2 := keepc hb4 s0_2 l0; replace s0_3 := keepc hb4 s0_3 l0; replace s0_4 := keepc hb4 s0_4 l0; replace l0 := Nat.lt_of_lt_of_le l0 hb4.size; replace hx := hx.to hb4; replace hD := hD.to hb4; replace HW := Lib.hid (hstep HW hb4); clear hb4; have m4 : True := trivial)
    | (have _ := m2; go_at_call 88; refine (signed_a (na x) (nd x) A1 D _ E1.out E3.out (by exact hx.1) (by exact hD)).mono ?_; rintro e w3 ⟨rfl, hb3⟩; replace s0_0 := keepc hb3 s0_0 l0; replace s0_1 := keepc hb3 s0_1 l0; replace s0_2 := keepc hb3 s0_2 l0; replace s0_3 := keepc hb3 s0_3 l0; replace s0_4 := keepc hb3 s0_4 l0; replace l0 := Nat.lt_of_lt_of_le l0 hb3.size; replace hx := hx.to hb3; replace hD := hD.to hb3; replace HW := Lib.hid (hstep HW hb3); clear hb3; have m3 : True := trivial)
    | (have _ := m1; go_at_call 89; refine (den_any x A1 A2 A3 _ (by exact hx)).mono ?_; rintro e w2 ⟨D, rfl, hD, hb2⟩; replace s0_0 := keepc hb2 s0_0 l0; replace s0_1 := keepc hb2 s0_1 l0; replace s0_2 := keepc hb2 s0_2 l0; replace s0_3 := keepc hb2 s0_3 l0; replace s0_4 := keepc hb2 s0_4 l0; replace l0 := Nat.lt_of_lt_of_le l0 hb2.size; replace hx := hx.to hb2; replace HW := Lib.hid (hstep HW hb2); clear hb2; have m2 : True := trivial)
    | (go_at_call 87; refine (double_any _).mono ?_; rintro e w1 ⟨rfl, hb1⟩; have hb1 := undrew hb1; replace s0_0 := keepc hb1 s0_0 l0; replace s0_1 := keepc hb1 s0_1 l0; replace s0_2 := keepc hb1 s0_2 l0; replace s0_3 := keepc hb1 s0_3 l0; replace s0_4 := keepc hb1 s0_4 l0; replace l0 := Nat.lt_of_lt_of_le l0 hb1.size; replace hx := hx.to hb1; replace HW := Lib.hid (hstep HW hb1); clear hb1; have m1 : True := trivial))
  go_wp2_with fail
  exact bodyPost_ret (v := .complex .f64 4591870180066957722 4604480259023595110) (by simp [results, Tryz.results13, go_sem]) rfl ⟨rfl, HW.out⟩

end Go.Proofs.YtgpmlhpgdalheaaGreat
