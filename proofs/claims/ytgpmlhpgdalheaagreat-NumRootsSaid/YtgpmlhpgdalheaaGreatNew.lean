/- 'New'. -/
import Derived.Test.YtgpmlhpgdalheaaGreatNDiv
namespace Go.Proofs.YtgpmlhpgdalheaaGreat
open Go.RowKit Pl
set_option linter.unusedVariables false
set_option linter.unusedSimpArgs false

/-- The quotients by an integer. -/
def frz (a b d : Int) : Cx := ⟨(a : Rat) / (d : Rat), (b : Rat) / (d : Rat)⟩
theorem frz_pos {a b d : Int} (h : 0 < d) : fr a b (ab d) = frz a b d := by
  have : ((ab d : Nat) : Int) = d := by unfold ab; omega
  have e : ((ab d : Nat) : Rat) = (d : Rat) := by rw [← Rat.intCast_natCast, this]
  unfold fr frz; rw [e]
theorem frz_neg {a b d : Int} (h : d < 0) : fr (-a) (-b) (ab d) = frz a b d := by
  have : ((ab d : Nat) : Int) = -d := by unfold ab; omega
  have e : ((ab d : Nat) : Rat) = -(d : Rat) := by rw [← Rat.intCast_natCast, this, Rat.intCast_neg]
  have hd : (d : Rat) ≠ 0 := by intro e; have := Rat.intCast_eq_zero_iff.1 e; omega
  unfold fr frz; rw [e, Rat.intCast_neg, Rat.intCast_neg]; congr 1 <;> grind

/-- Two local integers in the blocks p and p + 1 are set. -/
def set4 (w : World) (p : Nat) (z1 z2 : Int) (M1 M2 : Option Addr) : World :=
  (((w.setCell ⟨p, 0, none⟩ (.bool (sn z1))).setCell ⟨p, 1, none⟩ (.slice M1 (ln (ab z1)) (ln (ab z1)))).setCell ⟨p + 1, 0, none⟩ (.bool (sn z2))).setCell ⟨p + 1, 1, none⟩ (.slice M2 (ln (ab z2)) (ln (ab z2)))
theorem set4_size (w : World) (p : Nat) (z1 z2 : Int) (M1 M2 : Option Addr) : (set4 w p z1 z2 M1 M2).heap.size = w.heap.size := by simp [set4, World.setCell]
theorem set4_cell {w : World} {p b i : Nat} {z1 z2 : Int} {M1 M2 : Option Addr} {v : Value} (h : w.cell? ⟨b, i, none⟩ = some v) (h1 : b ≠ p) (h2 : b ≠ p + 1) : (set4 w p z1 z2 M1 M2).cell? ⟨b, i, none⟩ = some v := keepo (keepo (keepo (keepo h (.inl h1)) (.inl h1)) (.inl h2)) (.inl h2)
theorem set4_frozen {w : World} {p b i : Nat} {z1 z2 : Int} {M1 M2 : Option Addr} {v : Bool} (h : w.frozen? ⟨b, i, none⟩ = v) : (set4 w p z1 z2 M1 M2).frozen? ⟨b, i, none⟩ = v := keepof (keepof (keepof (keepof h)))
theorem set4_below {w W : World} {B p : Nat} {z1 z2 : Int} {M1 M2 : Option Addr} (h : Below B w W) (hp : B ≤ p) : Below B w (set4 W p z1 z2 M1 M2) :=
  (((h.setCell (by exact hp) _).setCell (by exact hp) _).setCell (by show B ≤ p + 1; omega) _).setCell (by show B ≤ p + 1; omega) _
theorem set4_nat {w : World} {p n : Nat} {z1 z2 : Int} {M1 M2 A : Option Addr} {c1 c2 : Bool} (h : Nat32 w A n) (u1 : w.cell? ⟨p, 0, none⟩ = some (.bool c1)) (u2 : w.cell? ⟨p + 1, 0, none⟩ = some (.bool c2)) : Nat32 (set4 w p z1 z2 M1 M2) A n := by
  have nb : ∀ (b : Bool) k m, Value.bool b ≠ .int k m := by intro b k m e; cases e
  have a1 := cell_self (u := .bool (sn z1)) u1
  have b1 : ((w.setCell ⟨p, 0, none⟩ (.bool (sn z1))).setCell ⟨p, 1, none⟩ (.slice M1 (ln (ab z1)) (ln (ab z1)))).cell? ⟨p + 1, 0, none⟩ = some (.bool c2) := keepo (keepo u2 (.inl (by omega))) (.inl (by omega))
  exact (((h.setBox u1 (nb _)).setBox a1 (nb _)).setBox b1 (nb _)).setBox (cell_self b1) (nb _)

set_option maxHeartbeats 4000000 in
theorem new_zero (a b d : Int) (w : World) (ha : -9223372036854775808 ≤ a ∧ a ≤ 9223372036854775807) (hb : -9223372036854775808 ≤ b ∧ b ≤ 9223372036854775807) (hd : -9223372036854775808 ≤ d ∧ d ≤ 9223372036854775807) (h : d = 0) :
    Calls Tryz.prog 119 #[.int .i64 a, .int .i64 b, .int .i64 d] w (RetNumE w 3 Cx.zero) := by
  have HA := Lib.hid ha
  have HB := Lib.hid hb
  have HD := Lib.hid hd
  clear ha hb hd
  subst h
  go_enter Tryz.func119, Tryz.ntmps119
  go_wp2_with fail
  obtain ⟨W, hW⟩ : ∃ W : World, W = (w.alloc (.cells #[.bool false, .slice none 0 0, .bool false, .slice none 0 0, .slice none 0 0] 30)) := ⟨_, rfl⟩
  have r0 : W.cell? ⟨w.heap.size, 0, none⟩ = some (.bool false) := by subst hW; go_simp
  have f0 : W.frozen? ⟨w.heap.size, 0, none⟩ = false := by subst hW; go_simp
  have r1 : W.cell? ⟨w.heap.size, 1, none⟩ = some (.slice none 0 0) := by subst hW; go_simp
  have f1 : W.frozen? ⟨w.heap.size, 1, none⟩ = false := by subst hW; go_simp
  have r2 : W.cell? ⟨w.heap.size, 2, none⟩ = some (.bool false) := by subst hW; go_simp
  have f2 : W.frozen? ⟨w.heap.size, 2, none⟩ = false := by subst hW; go_simp
  have r3 : W.cell? ⟨w.heap.size, 3, none⟩ = some (.slice none 0 0) := by subst hW; go_simp
  have f3 : W.frozen? ⟨w.heap.size, 3, none⟩ = false := by subst hW; go_simp
  have r4 : W.cell? ⟨w.heap.size, 4, none⟩ = some (.slice none 0 0) := by subst hW; go_simp
  have f4 : W.frozen? ⟨w.heap.size, 4, none⟩ = false := by subst hW; go_simp
  have HW : Below w.heap.size w W := by subst hW; exact ((Below.refl w.heap.size w).alloc (Nat.le_refl _) _)
  have l0 : w.heap.size < W.heap.size := by subst hW; simp
  rw [← hW]
  clear hW
  replace HW := Lib.hid HW
  refine bodyPost_ret (v := .tuple #[.agg #[.bool false, .slice none 0 0, .bool false, .slice none 0 0, .slice none 0 0], .int .i64 3]) (by simp [results, Tryz.results119, go_sem, r0, r1, r2, r3, r4, f0, f1, f2, f3, f4]) rfl ?_
  obtain ⟨e1, e2, e3⟩ := zero_form
  refine ⟨none, none, none, ?_, ⟨by rw [e1]; exact fun e => absurd rfl e, by rw [e2]; exact fun e => absurd rfl e, by rw [e3]; exact fun e => absurd rfl e⟩, HW.out⟩
  rw [e1, e2, e3, sn_zero, show ab 0 = 0 from rfl, ln_zero]

set_option maxHeartbeats 4000000 in
theorem new_pos (a b d : Int) (w : World) (ha : -9223372036854775808 ≤ a ∧ a ≤ 9223372036854775807) (hb : -9223372036854775808 ≤ b ∧ b ≤ 9223372036854775807) (hd : -9223372036854775808 ≤ d ∧ d ≤ 9223372036854775807) (h : 0 < d) :
    Calls Tryz.prog 119 #[.int .i64 a, .int .i64 b, .int .i64 d] w (RetNumE w 0 (frz a b d)) := by
  have HA := Lib.hid ha
  have HB := Lib.hid hb
  have HD := Lib.hid hd
  clear ha hb hd
  rw [← frz_pos h]
  have t : (d == 0) = false := by rw [beq_eq_false_iff_ne]; omega
  have t1 : sn d = false := by unfold sn; rw [decide_eq_false_iff_not]; omega
  have HN : Hid (ab d ≠ 0) := Lib.hid (by unfold ab; omega)
  clear h
  go_enter Tryz.func119, Tryz.ntmps119
  go_wp2_with fail
  obtain ⟨W, hW⟩ : ∃ W : World, W = (w.alloc (.cells #[.bool false, .slice none 0 0, .bool false, .slice none 0 0, .slice none 0 0] 30)) := ⟨_, rfl⟩
  have r0 : W.cell? ⟨w.heap.size, 0, none⟩ = some (.bool false) := by subst hW; go_simp
  have f0 : W.frozen? ⟨w.heap.size, 0, none⟩ = false := by subst hW; go_simp
  have r1 : W.cell? ⟨w.heap.size, 1, none⟩ = some (.slice none 0 0) := by subst hW; go_simp
  have f1 : W.frozen? ⟨w.heap.size, 1, none⟩ = false := by subst hW; go_simp
  have r2 : W.cell? ⟨w.heap.size, 2, none⟩ = some (.bool false) := by subst hW; go_simp
  have f2 : W.frozen? ⟨w.heap.size, 2, none⟩ = false := by subst hW; go_simp
  have r3 : W.cell? ⟨w.heap.size, 3, none⟩ = some (.slice none 0 0) := by subst hW; go_simp
  have f3 : W.frozen? ⟨w.heap.size, 3, none⟩ = false := by subst hW; go_simp
  have r4 : W.cell? ⟨w.heap.size, 4, none⟩ = some (.slice none 0 0) := by subst hW; go_simp
  have f4 : W.frozen? ⟨w.heap.size, 4, none⟩ = false := by subst hW; go_simp
  have HW : Below w.heap.size w W := by subst hW; exact ((Below.refl w.heap.size w).alloc (Nat.le_refl _) _)
  have l0 : w.heap.size < W.heap.size := by subst hW; simp
  rw [← hW]
  clear hW
  replace HW := Lib.hid HW
  refine (of64_any a _ HA.out.1 HA.out.2).mono ?_
  rintro e w1 ⟨A1, rfl, h1, hb1⟩
  replace r0 := keepc hb1 r0 l0
  replace f0 := keepf hb1 f0 l0
  replace r1 := keepc hb1 r1 l0
  replace f1 := keepf hb1 f1 l0
  replace r2 := keepc hb1 r2 l0
  replace f2 := keepf hb1 f2 l0
  replace r3 := keepc hb1 r3 l0
  replace f3 := keepf hb1 f3 l0
  replace r4 := keepc hb1 r4 l0
  replace f4 := keepf hb1 f4 l0
  replace l0 := Nat.lt_of_lt_of_le l0 hb1.size
  replace HW := Lib.hid (hstep HW hb1)
  clear hb1
  go_wp2_with fail
  refine (of64_any b _ HB.out.1 HB.out.2).mono ?_
  rintro e w2 ⟨A2, rfl, h2, hb2⟩
  replace r0 := keepc hb2 r0 l0
  replace f0 := keepf hb2 f0 l0
  replace r1 := keepc hb2 r1 l0
  replace f1 := keepf hb2 f1 l0
  replace r2 := keepc hb2 r2 l0
  replace f2 := keepf hb2 f2 l0
  replace r3 := keepc hb2 r3 l0
  replace f3 := keepf hb2 f3 l0
  replace r4 := keepc hb2 r4 l0
  replace f4 := keepf hb2 f4 l0
  replace l0 := Nat.lt_of_lt_of_le l0 hb2.size
  replace h1 := h1.to hb2
  replace HW := Lib.hid (hstep HW hb2)
  clear hb2
  go_wp2_with fail
  refine (of64_any d _ HD.out.1 HD.out.2).mono ?_
  rintro e w3 ⟨A3, rfl, h3, hb3⟩
  replace r0 := keepc hb3 r0 l0
  replace f0 := keepf hb3 f0 l0
  replace r1 := keepc hb3 r1 l0
  replace f1 := keepf hb3 f1 l0
  replace r2 := keepc hb3 r2 l0
  replace f2 := keepf hb3 f2 l0
  replace r3 := keepc hb3 r3 l0
  replace f3 := keepf hb3 f3 l0
  replace r4 := keepc hb3 r4 l0
  replace f4 := keepf hb3 f4 l0
  replace l0 := Nat.lt_of_lt_of_le l0 hb3.size
  replace h1 := h1.to hb3
  replace h2 := h2.to hb3
  replace HW := Lib.hid (hstep HW hb3)
  clear hb3
  go_wp2_with fail
  refine (over_any a b (ab d) A1 A2 A3 _ (by exact (((h1.alloc _).alloc _).alloc _)) (by exact (((h2.alloc _).alloc _).alloc _)) (by exact (((h3.alloc _).alloc _).alloc _)) (by have := ab_small HA.out.1 HA.out.2; omega) (by have := ab_small HB.out.1 HB.out.2; omega) (by have := ab_small HD.out.1 HD.out.2; omega) HN.out).mono ?_
  rintro e w4 ⟨Z1, Z2, Z3, rfl, h4, hb4⟩
  replace hb4 := unalloc (unalloc (unalloc hb4))
  replace r0 := keepc hb4 r0 l0
  replace f0 := keepf hb4 f0 l0
  replace r1 := keepc hb4 r1 l0
  replace f1 := keepf hb4 f1 l0
  replace r2 := keepc hb4 r2 l0
  replace f2 := keepf hb4 f2 l0
  replace r3 := keepc hb4 r3 l0
  replace f3 := keepf hb4 f3 l0
  replace r4 := keepc hb4 r4 l0
  replace f4 := keepf hb4 f4 l0
  replace l0 := Nat.lt_of_lt_of_le l0 hb4.size
  replace h1 := h1.to hb4
  replace h2 := h2.to hb4
  replace h3 := h3.to hb4
  replace HW := Lib.hid (hstep HW hb4)
  clear hb4
  go_wp2_with fail
  exact bodyPost_ret (v := .tuple #[.agg #[.bool (sn (na (fr a b (ab d)))), .slice Z1 (ln (ab (na (fr a b (ab d))))) (ln (ab (na (fr a b (ab d))))), .bool (sn (nb (fr a b (ab d)))), .slice Z2 (ln (ab (nb (fr a b (ab d))))) (ln (ab (nb (fr a b (ab d))))), .slice Z3 (ln (un (fr a b (ab d)))) (ln (un (fr a b (ab d))))], .int .i64 0]) (by simp [results, Tryz.results119, go_sem, r0, r1, r2, r3, r4, f0, f1, f2, f3, f4]) rfl (retNumE_fin HW h4 (by omega) r0)

set_option maxHeartbeats 4000000 in
theorem new_neg (a b d : Int) (w : World) (ha : -9223372036854775808 ≤ a ∧ a ≤ 9223372036854775807) (hb : -9223372036854775808 ≤ b ∧ b ≤ 9223372036854775807) (hd : -9223372036854775808 ≤ d ∧ d ≤ 9223372036854775807) (h : d < 0) :
    Calls Tryz.prog 119 #[.int .i64 a, .int .i64 b, .int .i64 d] w (RetNumE w 0 (frz a b d)) := by
  have HA := Lib.hid ha
  have HB := Lib.hid hb
  have HD := Lib.hid hd
  clear ha hb hd
  rw [← frz_neg h]
  have t : (d == 0) = false := by rw [beq_eq_false_iff_ne]; omega
  have t1 : sn d = true := by unfold sn; rw [decide_eq_true_eq]; omega
  have HN : Hid (ab d ≠ 0) := Lib.hid (by unfold ab; omega)
  clear h
  go_enter Tryz.func119, Tryz.ntmps119
  go_wp2_with fail
  obtain ⟨W, hW⟩ : ∃ W : World, W = (w.alloc (.cells #[.bool false, .slice none 0 0, .bool false, .slice none 0 0, .slice none 0 0] 30)) := ⟨_, rfl⟩
  have r0 : W.cell? ⟨w.heap.size, 0, none⟩ = some (.bool false) := by subst hW; go_simp
  have f0 : W.frozen? ⟨w.heap.size, 0, none⟩ = false := by subst hW; go_simp
  have r1 : W.cell? ⟨w.heap.size, 1, none⟩ = some (.slice none 0 0) := by subst hW; go_simp
  have f1 : W.frozen? ⟨w.heap.size, 1, none⟩ = false := by subst hW; go_simp
  have r2 : W.cell? ⟨w.heap.size, 2, none⟩ = some (.bool false) := by subst hW; go_simp
  have f2 : W.frozen? ⟨w.heap.size, 2, none⟩ = false := by subst hW; go_simp
  have r3 : W.cell? ⟨w.heap.size, 3, none⟩ = some (.slice none 0 0) := by subst hW; go_simp
  have f3 : W.frozen? ⟨w.heap.size, 3, none⟩ = false := by subst hW; go_simp
  have r4 : W.cell? ⟨w.heap.size, 4, none⟩ = some (.slice none 0 0) := by subst hW; go_simp
  have f4 : W.frozen? ⟨w.heap.size, 4, none⟩ = false := by subst hW; go_simp
  have HW : Below w.heap.size w W := by subst hW; exact ((Below.refl w.heap.size w).alloc (Nat.le_refl _) _)
  have l0 : w.heap.size < W.heap.size := by subst hW; simp
  rw [← hW]
  clear hW
  replace HW := Lib.hid HW
  refine (of64_any a _ HA.out.1 HA.out.2).mono ?_
  rintro e w1 ⟨A1, rfl, h1, hb1⟩
  replace r0 := keepc hb1 r0 l0
  replace f0 := keepf hb1 f0 l0
  replace r1 := keepc hb1 r1 l0
  replace f1 := keepf hb1 f1 l0
  replace r2 := keepc hb1 r2 l0
  replace f2 := keepf hb1 f2 l0
  replace r3 := keepc hb1 r3 l0
  replace f3 := keepf hb1 f3 l0
  replace r4 := keepc hb1 r4 l0
  replace f4 := keepf hb1 f4 l0
  replace l0 := Nat.lt_of_lt_of_le l0 hb1.size
  replace HW := Lib.hid (hstep HW hb1)
  clear hb1
  go_wp2_with fail
  refine (of64_any b _ HB.out.1 HB.out.2).mono ?_
  rintro e w2 ⟨A2, rfl, h2, hb2⟩
  replace r0 := keepc hb2 r0 l0
  replace f0 := keepf hb2 f0 l0
  replace r1 := keepc hb2 r1 l0
  replace f1 := keepf hb2 f1 l0
  replace r2 := keepc hb2 r2 l0
  replace f2 := keepf hb2 f2 l0
  replace r3 := keepc hb2 r3 l0
  replace f3 := keepf hb2 f3 l0
  replace r4 := keepc hb2 r4 l0
  replace f4 := keepf hb2 f4 l0
  replace l0 := Nat.lt_of_lt_of_le l0 hb2.size
  replace h1 := h1.to hb2
  replace HW := Lib.hid (hstep HW hb2)
  clear hb2
  go_wp2_with fail
  refine (of64_any d _ HD.out.1 HD.out.2).mono ?_
  rintro e w3 ⟨A3, rfl, h3, hb3⟩
  replace r0 := keepc hb3 r0 l0
  replace f0 := keepf hb3 f0 l0
  replace r1 := keepc hb3 r1 l0
  replace f1 := keepf hb3 f1 l0
  replace r2 := keepc hb3 r2 l0
  replace f2 := keepf hb3 f2 l0
  replace r3 := keepc hb3 r3 l0
  replace f3 := keepf hb3 f3 l0
  replace r4 := keepc hb3 r4 l0
  replace f4 := keepf hb3 f4 l0
  replace l0 := Nat.lt_of_lt_of_le l0 hb3.size
  replace h1 := h1.to hb3
  replace h2 := h2.to hb3
  replace HW := Lib.hid (hstep HW hb3)
  clear hb3
  go_upto_region 5 with fail
  obtain ⟨X, hX⟩ : ∃ X : World, X = (((w3.alloc (.cells #[.bool (sn a), .slice A1 (ln (ab a)) (ln (ab a))] 28)).alloc (.cells #[.bool (sn b), .slice A2 (ln (ab b)) (ln (ab b))] 28)).alloc (.cells #[.bool true, .slice A3 (ln (ab d)) (ln (ab d))] 28)) := ⟨_, rfl⟩
  rw [← hX]
  have hX3 : Below w3.heap.size w3 X := by subst hX; exact (((Below.refl _ _).alloc (Nat.le_refl _) _).alloc (by simp) _).alloc (by simp; omega) _
  have u0_0 : X.cell? ⟨w3.heap.size, 0, none⟩ = some (.bool (sn a)) := by subst hX; go_simp
  have u0_1 : X.cell? ⟨w3.heap.size, 1, none⟩ = some (.slice A1 (ln (ab a)) (ln (ab a))) := by subst hX; go_simp
  have e0_0 : X.frozen? ⟨w3.heap.size, 0, none⟩ = false := by subst hX; go_simp
  have e0_1 : X.frozen? ⟨w3.heap.size, 1, none⟩ = false := by subst hX; go_simp
  have l200 : w3.heap.size < X.heap.size := by subst hX; simp <;> omega
  have u1_0 : X.cell? ⟨w3.heap.size + 1, 0, none⟩ = some (.bool (sn b)) := by subst hX; go_simp
  have u1_1 : X.cell? ⟨w3.heap.size + 1, 1, none⟩ = some (.slice A2 (ln (ab b)) (ln (ab b))) := by subst hX; go_simp
  have e1_0 : X.frozen? ⟨w3.heap.size + 1, 0, none⟩ = false := by subst hX; go_simp
  have e1_1 : X.frozen? ⟨w3.heap.size + 1, 1, none⟩ = false := by subst hX; go_simp
  have l201 : w3.heap.size + 1 < X.heap.size := by subst hX; simp <;> omega
  have u2_0 : X.cell? ⟨w3.heap.size + 1 + 1, 0, none⟩ = some (.bool (true)) := by subst hX; go_simp
  have u2_1 : X.cell? ⟨w3.heap.size + 1 + 1, 1, none⟩ = some (.slice A3 (ln (ab d)) (ln (ab d))) := by subst hX; go_simp
  have e2_0 : X.frozen? ⟨w3.heap.size + 1 + 1, 0, none⟩ = false := by subst hX; go_simp
  have e2_1 : X.frozen? ⟨w3.heap.size + 1 + 1, 1, none⟩ = false := by subst hX; go_simp
  have l202 : w3.heap.size + 1 + 1 < X.heap.size := by subst hX; simp <;> omega
  clear hX
  have hb4 := hX3
  clear hX3
  have hp : w.heap.size < w3.heap.size := l0
  replace r0 := keepc hb4 r0 l0
  replace f0 := keepf hb4 f0 l0
  replace r1 := keepc hb4 r1 l0
  replace f1 := keepf hb4 f1 l0
  replace r2 := keepc hb4 r2 l0
  replace f2 := keepf hb4 f2 l0
  replace r3 := keepc hb4 r3 l0
  replace f3 := keepf hb4 f3 l0
  replace r4 := keepc hb4 r4 l0
  replace f4 := keepf hb4 f4 l0
  replace l0 := Nat.lt_of_lt_of_le l0 hb4.size
  replace h1 := h1.to hb4
  replace h2 := h2.to hb4
  replace h3 := h3.to hb4
  replace HW := Lib.hid (hstep HW hb4)
  clear hb4
  generalize w3.heap.size = p at *
  have d0 : p ≠ w.heap.size := by omega
  have d1 : p + 1 ≠ w.heap.size := by omega
  have d2 : p + 1 ≠ p := by omega
  go_region_with (first
    | (go_at_call_of 105 (Value.slice A1 (ln (ab a)) (ln (ab a))); refine (minus_any a A1 _ (by exact h1)).mono ?_; rintro e w5 ⟨M0, rfl, q0, hb5⟩; have hb5 := undrew hb5; replace u0_0 := keepc hb5 u0_0 l200; replace u0_1 := keepc hb5 u0_1 l200; replace u1_0 := keepc hb5 u1_0 l201; replace u1_1 := keepc hb5 u1_1 l201; replace u2_0 := keepc hb5 u2_0 l202; replace u2_1 := keepc hb5 u2_1 l202; replace r0 := keepc hb5 r0 l0; replace f0 := keepf hb5 f0 l0; replace r1 := keepc hb5 r1 l0; replace f1 := keepf hb5 f1 l0; replace r2 := keepc hb5 r2 l0; replace f2 := keepf hb5 f2 l0; replace r3 := keepc hb5 r3 l0; replace f3 := keepf hb5 f3 l0; replace r4 := keepc hb5 r4 l0; replace f4 := keepf hb5 f4 l0; replace e0_0 := keepf hb5 e0_0 l200; replace e0_1 := keepf hb5 e0_1 l200; replace e1_0 := keepf hb5 e1_0 l201; replace e1_1 := keepf hb5 e1_1 l201; replace e2_0 := keepf hb5 e2_0 l202; replace e2_1 := keepf hb5 e2_1 l202; replace l0 := Nat.lt_of_lt_of_le l0 hb5.size; replace l200 := Nat.lt_of_lt_of_le l200 hb5.size; replace l201 := Nat.lt_of_lt_of_le l201 hb5.size; replace l202 := Nat.lt_of_lt_of_le l202 hb5.size; replace h1 := h1.to hb5; replace h2 := h2.to hb5; replace h3 := h3.to hb5; replace HW := Lib.hid (hstep HW hb5); clear hb5)
    | (go_at_call_of 105 (Value.slice A2 (ln (ab b)) (ln (ab b))); refine (minus_any b A2 _ (by exact h2)).mono ?_; rintro e w6 ⟨M1, rfl, q1, hb6⟩; replace u0_0 := keepc hb6 u0_0 l200; replace u0_1 := keepc hb6 u0_1 l200; replace u1_0 := keepc hb6 u1_0 l201; replace u1_1 := keepc hb6 u1_1 l201; replace u2_0 := keepc hb6 u2_0 l202; replace u2_1 := keepc hb6 u2_1 l202; replace r0 := keepc hb6 r0 l0; replace f0 := keepf hb6 f0 l0; replace r1 := keepc hb6 r1 l0; replace f1 := keepf hb6 f1 l0; replace r2 := keepc hb6 r2 l0; replace f2 := keepf hb6 f2 l0; replace r3 := keepc hb6 r3 l0; replace f3 := keepf hb6 f3 l0; replace r4 := keepc hb6 r4 l0; replace f4 := keepf hb6 f4 l0; replace e0_0 := keepf hb6 e0_0 l200; replace e0_1 := keepf hb6 e0_1 l200; replace e1_0 := keepf hb6 e1_0 l201; replace e1_1 := keepf hb6 e1_1 l201; replace e2_0 := keepf hb6 e2_0 l202; replace e2_1 := keepf hb6 e2_1 l202; replace l0 := Nat.lt_of_lt_of_le l0 hb6.size; replace l200 := Nat.lt_of_lt_of_le l200 hb6.size; replace l201 := Nat.lt_of_lt_of_le l201 hb6.size; replace l202 := Nat.lt_of_lt_of_le l202 hb6.size; replace h1 := h1.to hb6; replace h2 := h2.to hb6; replace h3 := h3.to hb6; replace q0 := q0.to hb6; replace HW := Lib.hid (hstep HW hb6); clear hb6))
  all_goals
    go_wp2_with fail
    obtain ⟨X2, hX2⟩ : ∃ X : World, X = set4 w6 p (-a) (-b) M0 M1 := ⟨_, rfl⟩
    have hw : set4 w6 p (-a) (-b) M0 M1 = X2 := hX2.symm
    unfold set4 at hw
    rw [hw]
    clear hw
    replace q0 := set4_nat (z1 := -a) (z2 := -b) (M1 := M0) (M2 := M1) q0 u0_0 u1_0
    rw [← hX2] at q0
    replace q1 := set4_nat (z1 := -a) (z2 := -b) (M1 := M0) (M2 := M1) q1 u0_0 u1_0
    rw [← hX2] at q1
    replace h3 := set4_nat (z1 := -a) (z2 := -b) (M1 := M0) (M2 := M1) h3 u0_0 u1_0
    rw [← hX2] at h3
    replace r0 := set4_cell (z1 := -a) (z2 := -b) (M1 := M0) (M2 := M1) (p := p) r0 (by omega) (by omega)
    rw [← hX2] at r0
    replace f0 := set4_frozen (z1 := -a) (z2 := -b) (M1 := M0) (M2 := M1) (p := p) f0
    rw [← hX2] at f0
    replace r1 := set4_cell (z1 := -a) (z2 := -b) (M1 := M0) (M2 := M1) (p := p) r1 (by omega) (by omega)
    rw [← hX2] at r1
    replace f1 := set4_frozen (z1 := -a) (z2 := -b) (M1 := M0) (M2 := M1) (p := p) f1
    rw [← hX2] at f1
    replace r2 := set4_cell (z1 := -a) (z2 := -b) (M1 := M0) (M2 := M1) (p := p) r2 (by omega) (by omega)
    rw [← hX2] at r2
    replace f2 := set4_frozen (z1 := -a) (z2 := -b) (M1 := M0) (M2 := M1) (p := p) f2
    rw [← hX2] at f2
    replace r3 := set4_cell (z1 := -a) (z2 := -b) (M1 := M0) (M2 := M1) (p := p) r3 (by omega) (by omega)
    rw [← hX2] at r3
    replace f3 := set4_frozen (z1 := -a) (z2 := -b) (M1 := M0) (M2 := M1) (p := p) f3
    rw [← hX2] at f3
    replace r4 := set4_cell (z1 := -a) (z2 := -b) (M1 := M0) (M2 := M1) (p := p) r4 (by omega) (by omega)
    rw [← hX2] at r4
    replace f4 := set4_frozen (z1 := -a) (z2 := -b) (M1 := M0) (M2 := M1) (p := p) f4
    rw [← hX2] at f4
    replace HW := Lib.hid (set4_below (z1 := -a) (z2 := -b) (M1 := M0) (M2 := M1) HW.out (show w.heap.size ≤ p by omega))
    rw [← hX2] at HW
    have l0 : w.heap.size < X2.heap.size := by rw [hX2, set4_size]; exact l0
    clear u0_0 u0_1 u1_0 u1_1 u2_0 u2_1 e0_0 e0_1 e1_0 e1_1 e2_0 e2_1 l200 l201 l202 hX2
    refine (over_any (-a) (-b) (ab d) M0 M1 A3 _ (by exact q0) (by exact q1) (by exact h3) (by rw [ab_neg]; have := ab_small HA.out.1 HA.out.2; omega) (by rw [ab_neg]; have := ab_small HB.out.1 HB.out.2; omega) (by have := ab_small HD.out.1 HD.out.2; omega) HN.out).mono ?_
    rintro e w9 ⟨Z1, Z2, Z3, rfl, h9, hb9⟩
    replace r0 := keepc hb9 r0 l0
    replace f0 := keepf hb9 f0 l0
    replace r1 := keepc hb9 r1 l0
    replace f1 := keepf hb9 f1 l0
    replace r2 := keepc hb9 r2 l0
    replace f2 := keepf hb9 f2 l0
    replace r3 := keepc hb9 r3 l0
    replace f3 := keepf hb9 f3 l0
    replace r4 := keepc hb9 r4 l0
    replace f4 := keepf hb9 f4 l0
    replace HW := Lib.hid (hstep HW hb9)
    go_wp2_with fail
    exact bodyPost_ret (v := .tuple #[.agg #[.bool (sn (na (fr (-a) (-b) (ab d)))), .slice Z1 (ln (ab (na (fr (-a) (-b) (ab d))))) (ln (ab (na (fr (-a) (-b) (ab d))))), .bool (sn (nb (fr (-a) (-b) (ab d)))), .slice Z2 (ln (ab (nb (fr (-a) (-b) (ab d))))) (ln (ab (nb (fr (-a) (-b) (ab d))))), .slice Z3 (ln (un (fr (-a) (-b) (ab d)))) (ln (un (fr (-a) (-b) (ab d))))], .int .i64 0]) (by simp [results, Tryz.results119, go_sem, r0, r1, r2, r3, r4, f0, f1, f2, f3, f4]) rfl (retNumE_fin HW h9 (by omega) r0)

theorem new_any (a b d : Int) (w : World) (ha : -9223372036854775808 ≤ a ∧ a ≤ 9223372036854775807) (hb : -9223372036854775808 ≤ b ∧ b ≤ 9223372036854775807) (hd : -9223372036854775808 ≤ d ∧ d ≤ 9223372036854775807) (h : d ≠ 0) :
    Calls Tryz.prog 119 #[.int .i64 a, .int .i64 b, .int .i64 d] w (RetNumE w 0 (frz a b d)) :=
  if h0 : 0 < d then new_pos a b d w ha hb hd h0 else new_neg a b d w ha hb hd (by omega)

end Go.Proofs.YtgpmlhpgdalheaaGreat
