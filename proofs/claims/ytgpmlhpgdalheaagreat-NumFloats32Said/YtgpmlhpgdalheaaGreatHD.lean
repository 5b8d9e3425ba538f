/- The reference: Add. Condition: at most 2^37 words each. The reference: Of. The program's Complex. The reference's finite, dyadic, Complex. -/
import Derived.Test.YtgpmlhpgdalheaaGreatRS
import Derived.RegionTactic
import Derived.Deep.DeepCutAuto
import Derived.Test.YtgpmlhpgdalheaaGreatRI
import Derived.Test.YtgpmlhpgdalheaaGreatOf
import Derived.Test.YtgpmlhpgdalheaaGreatHC
namespace Go.Proofs.YtgpmlhpgdalheaaGreat
open Go.RowKit Pl
set_option linter.unusedVariables false
set_option linter.unusedSimpArgs false

/-- Two local integers that are not negative. -/
def TwoInt (W : World) (A B : Option Addr) (n m c d : Nat) (p q : Value) (wx : World) : Prop := ∃ g h, p = .pointer (some ⟨g, 0, none⟩) ∧ q = .pointer (some ⟨h, 0, none⟩) ∧
  (wx.cell? ⟨g, 0, none⟩ = some (.bool false) ∧ wx.cell? ⟨g, 1, none⟩ = some (.slice A n c)) ∧ (wx.cell? ⟨h, 0, none⟩ = some (.bool false) ∧ wx.cell? ⟨h, 1, none⟩ = some (.slice B m d)) ∧
  (W.heap.size ≤ g ∧ g < wx.heap.size) ∧ (W.heap.size ≤ h ∧ h < wx.heap.size) ∧ Below W.heap.size W wx
theorem twoInt_a (W : World) (A B : Option Addr) (n m c d : Nat) (T : TypeId) : TwoInt W A B n m c d (.pointer (some ⟨W.heap.size, 0, none⟩)) (.pointer (some ⟨W.heap.size + 1, 0, none⟩)) ((W.alloc (.cells #[.bool false, .slice A n c] T)).alloc (.cells #[.bool false, .slice B m d] T)).drew :=
  ⟨_, _, rfl, rfl, ⟨by go_simp, by go_simp⟩, ⟨by go_simp, by go_simp⟩, ⟨by omega, by show _ < ((W.alloc _).alloc _).heap.size; simp <;> omega⟩, ⟨by omega, by show _ < ((W.alloc _).alloc _).heap.size; simp <;> omega⟩, below_drewN (((Below.refl _ _).alloc (Nat.le_refl _) _).alloc (by simp) _) 1⟩
theorem twoInt_b (W : World) (A B : Option Addr) (n m c d : Nat) (T : TypeId) : TwoInt W A B n m c d (.pointer (some ⟨W.heap.size + 1, 0, none⟩)) (.pointer (some ⟨W.heap.size, 0, none⟩)) ((W.alloc (.cells #[.bool false, .slice B m d] T)).alloc (.cells #[.bool false, .slice A n c] T)).drew :=
  ⟨_, _, rfl, rfl, ⟨by go_simp, by go_simp⟩, ⟨by go_simp, by go_simp⟩, ⟨by omega, by show _ < ((W.alloc _).alloc _).heap.size; simp <;> omega⟩, ⟨by omega, by show _ < ((W.alloc _).alloc _).heap.size; simp <;> omega⟩, below_drewN (((Below.refl _ _).alloc (Nat.le_refl _) _).alloc (by simp) _) 1⟩

theorem rtimes_n (a : Int) (n : Nat) (A B : Option Addr) (cA cB : Nat) (w : World) (hx : Nat32 w A (ab a)) (hy : Nat32 w B n) (hbx : ln (ab a) ≤ 1099511627776) (hby : ln n ≤ 1099511627776) :
    Calls Tryz.prog 102 #[.agg #[.bool (sn a), .slice A (ln (ab a)) cA], .agg #[.bool false, .slice B (ln n) cB]] w (RetWholeC w (a * (n : Int))) := by
  have e : ab (n : Int) = n := by unfold ab; omega
  have e2 : sn (n : Int) = false := by unfold sn; rw [decide_eq_false_iff_not]; omega
  have h := rtimes_any a (n : Int) A B cA cB w hx (by rw [e]; exact hy) hbx (by rw [e]; exact hby)
  rwa [e, e2] at h
theorem ab_muln_ln {a : Int} {n K L : Nat} (ha : ln (ab a) ≤ K) (hn : ln n ≤ L) : ln (ab (a * (n : Int))) ≤ K + L := ab_mul_ln ha (b := (n : Int)) (by rw [show ab (n : Int) = n by unfold ab; omega]; exact hn)

set_option maxHeartbeats 4000000 in
theorem radd_any (x y : Cx) (A1 A2 A3 B1 B2 B3 : Option Addr) (cA1 cA2 cA3 cB1 cB2 cB3 : Nat) (w : World) (hx : Num3C w A1 A2 A3 x) (hy : Num3C w B1 B2 B3 y) (hsx : sz 137438953472 x) (hsy : sz 137438953472 y) :
    Calls Tryz.prog 27 #[.agg #[.bool (sn (na x)), .slice A1 (ln (ab (na x))) cA1, .bool (sn (nb x)), .slice A2 (ln (ab (nb x))) cA2, .slice A3 (ln (nd x)) cA3], .agg #[.bool (sn (na y)), .slice B1 (ln (ab (na y))) cB1, .bool (sn (nb y)), .slice B2 (ln (ab (nb y))) cB2, .slice B3 (ln (nd y)) cB3]] w (RetNumC w (x.add y)) := by
  obtain ⟨hx1, hx2, hx3⟩ := hx
  obtain ⟨hy1, hy2, hy3⟩ := hy
  have HSX := Lib.hid hsx
  have HSY := Lib.hid hsy
  clear hsx hsy
  rw [← add_fr]
  go_enter Tryz.func27, Tryz.ntmps27
  go_wp2_with fail
  obtain ⟨W, hW⟩ : ∃ W : World, W = (((w.alloc (.cells #[.bool (sn (na x)), .slice A1 (ln (ab (na x))) cA1, .bool (sn (nb x)), .slice A2 (ln (ab (nb x))) cA2, .slice A3 (ln (nd x)) cA3] 34)).alloc (.cells #[.bool (sn (na y)), .slice B1 (ln (ab (na y))) cB1, .bool (sn (nb y)), .slice B2 (ln (ab (nb y))) cB2, .slice B3 (ln (nd y)) cB3] 34)).alloc (.cells #[.bool false, .slice none 0 0, .bool false, .slice none 0 0, .slice none 0 0] 34)) := ⟨_, rfl⟩
  have s0_0 : W.cell? ⟨w.heap.size, 0, none⟩ = some (.bool (sn (na x))) := by subst hW; go_simp
  have s0_1 : W.cell? ⟨w.heap.size, 1, none⟩ = some (.slice A1 (ln (ab (na x))) cA1) := by subst hW; go_simp
  have s0_2 : W.cell? ⟨w.heap.size, 2, none⟩ = some (.bool (sn (nb x))) := by subst hW; go_simp
  have s0_3 : W.cell? ⟨w.heap.size, 3, none⟩ = some (.slice A2 (ln (ab (nb x))) cA2) := by subst hW; go_simp
  have s0_4 : W.cell? ⟨w.heap.size, 4, none⟩ = some (.slice A3 (ln (nd x)) cA3) := by subst hW; go_simp
  have s1_0 : W.cell? ⟨w.heap.size + 1, 0, none⟩ = some (.bool (sn (na y))) := by subst hW; go_simp
  have s1_1 : W.cell? ⟨w.heap.size + 1, 1, none⟩ = some (.slice B1 (ln (ab (na y))) cB1) := by subst hW; go_simp
  have s1_2 : W.cell? ⟨w.heap.size + 1, 2, none⟩ = some (.bool (sn (nb y))) := by subst hW; go_simp
  have s1_3 : W.cell? ⟨w.heap.size + 1, 3, none⟩ = some (.slice B2 (ln (ab (nb y))) cB2) := by subst hW; go_simp
  have s1_4 : W.cell? ⟨w.heap.size + 1, 4, none⟩ = some (.slice B3 (ln (nd y)) cB3) := by subst hW; go_simp
  have r0 : W.cell? ⟨w.heap.size + 1 + 1, 0, none⟩ = some (.bool false) := by subst hW; go_simp
  have f0 : W.frozen? ⟨w.heap.size + 1 + 1, 0, none⟩ = false := by subst hW; go_simp
  have r1 : W.cell? ⟨w.heap.size + 1 + 1, 1, none⟩ = some (.slice none 0 0) := by subst hW; go_simp
  have f1 : W.frozen? ⟨w.heap.size + 1 + 1, 1, none⟩ = false := by subst hW; go_simp
  have r2 : W.cell? ⟨w.heap.size + 1 + 1, 2, none⟩ = some (.bool false) := by subst hW; go_simp
  have f2 : W.frozen? ⟨w.heap.size + 1 + 1, 2, none⟩ = false := by subst hW; go_simp
  have r3 : W.cell? ⟨w.heap.size + 1 + 1, 3, none⟩ = some (.slice none 0 0) := by subst hW; go_simp
  have f3 : W.frozen? ⟨w.heap.size + 1 + 1, 3, none⟩ = false := by subst hW; go_simp
  have r4 : W.cell? ⟨w.heap.size + 1 + 1, 4, none⟩ = some (.slice none 0 0) := by subst hW; go_simp
  have f4 : W.frozen? ⟨w.heap.size + 1 + 1, 4, none⟩ = false := by subst hW; go_simp
  have HW : Below w.heap.size w W := by subst hW; exact ((((Below.refl w.heap.size w).alloc (Nat.le_refl _) _).alloc (by simp) _).alloc (by simp; omega) _)
  have l0 : w.heap.size < W.heap.size := by subst hW; simp <;> omega
  have l1 : w.heap.size + 1 < W.heap.size := by subst hW; simp <;> omega
  have l2 : w.heap.size + 1 + 1 < W.heap.size := by subst hW; simp
  have n0 : w.heap.size ≠ w.heap.size + 1 + 1 := by omega
  have n1 : w.heap.size + 1 ≠ w.heap.size + 1 + 1 := by omega
  replace hx1 := hx1.to HW
  replace hx2 := hx2.to HW
  replace hx3 := hx3.to HW
  replace hy1 := hy1.to HW
  replace hy2 := hy2.to HW
  replace hy3 := hy3.to HW
  rw [← hW]
  clear hW
  replace HW := Lib.hid HW
  go_upto_region 1 with fail
  go_cut [5, 6] (fun p q wx => TwoInt W A3 B3 (ln (nd x)) (ln (nd y)) cA3 cB3 p q wx)
  case first =>
    go_region
    all_goals (go_wp2_with fail; go_meet; first | exact twoInt_a _ _ _ _ _ _ _ _ | exact twoInt_b _ _ _ _ _ _ _ _)
  case rest =>
  obtain ⟨g0, g1, hp0, hp1, ⟨t0_0, t0_1⟩, ⟨t1_0, t1_1⟩, ⟨hg0, l100⟩, ⟨hg1, l101⟩, hb1⟩ := hcut
  subst hp0 hp1
  have n100 : g0 ≠ w.heap.size + 1 + 1 := by omega
  have n101 : g1 ≠ w.heap.size + 1 + 1 := by omega
  obtain ⟨w1, rfl⟩ : ∃ X : World, X = wc := ⟨_, rfl⟩
  replace s0_0 := keepc hb1 s0_0 l0
  replace s0_1 := keepc hb1 s0_1 l0
  replace s0_2 := keepc hb1 s0_2 l0
  replace s0_3 := keepc hb1 s0_3 l0
  replace s0_4 := keepc hb1 s0_4 l0
  replace s1_0 := keepc hb1 s1_0 l1
  replace s1_1 := keepc hb1 s1_1 l1
  replace s1_2 := keepc hb1 s1_2 l1
  replace s1_3 := keepc hb1 s1_3 l1
  replace s1_4 := keepc hb1 s1_4 l1
  replace r0 := keepc hb1 r0 l2
  replace f0 := keepf hb1 f0 l2
  replace r1 := keepc hb1 r1 l2
  replace f1 := keepf hb1 f1 l2
  replace r2 := keepc hb1 r2 l2
  replace f2 := keepf hb1 f2 l2
  replace r3 := keepc hb1 r3 l2
  replace f3 := keepf hb1 f3 l2
  replace r4 := keepc hb1 r4 l2
  replace f4 := keepf hb1 f4 l2
  replace l0 := Nat.lt_of_lt_of_le l0 hb1.size
  replace l1 := Nat.lt_of_lt_of_le l1 hb1.size
  replace l2 := Nat.lt_of_lt_of_le l2 hb1.size
  replace hx1 := hx1.to hb1
  replace hx2 := hx2.to hb1
  replace hx3 := hx3.to hb1
  replace hy1 := hy1.to hb1
  replace hy2 := hy2.to hb1
  replace hy3 := hy3.to hb1
  replace HW := Lib.hid (hstep HW hb1)
  clear hb1
  go_wp2_with fail
  go_region_held3 (fun w' => w'.cell? ⟨w.heap.size, 0, none⟩ = some (.bool (sn (na x))) ∧ w'.cell? ⟨w.heap.size, 1, none⟩ = some (.slice A1 (ln (ab (na x))) cA1) ∧ w'.cell? ⟨w.heap.size, 2, none⟩ = some (.bool (sn (nb x))) ∧ w'.cell? ⟨w.heap.size, 3, none⟩ = some (.slice A2 (ln (ab (nb x))) cA2) ∧ w'.cell? ⟨w.heap.size, 4, none⟩ = some (.slice A3 (ln (nd x)) cA3) ∧ w'.cell? ⟨w.heap.size + 1, 0, none⟩ = some (.bool (sn (na y))) ∧ w'.cell? ⟨w.heap.size + 1, 1, none⟩ = some (.slice B1 (ln (ab (na y))) cB1) ∧ w'.cell? ⟨w.heap.size + 1, 2, none⟩ = some (.bool (sn (nb y))) ∧ w'.cell? ⟨w.heap.size + 1, 3, none⟩ = some (.slice B2 (ln (ab (nb y))) cB2) ∧ w'.cell? ⟨w.heap.size + 1, 4, none⟩ = some (.slice B3 (ln (nd y)) cB3) ∧ w'.cell? ⟨g0, 0, none⟩ = some (.bool false) ∧ w'.cell? ⟨g0, 1, none⟩ = some (.slice A3 (ln (nd x)) cA3) ∧ w'.cell? ⟨g1, 0, none⟩ = some (.bool false) ∧ w'.cell? ⟨g1, 1, none⟩ = some (.slice B3 (ln (nd y)) cB3)) (first | with_reducible exact ⟨s0_0, s0_1, s0_2, s0_3, s0_4, s1_0, s1_1, s1_2, s1_3, s1_4, t0_0, t0_1, t1_0, t1_1⟩ | with_reducible exact ⟨(keeps (keeps (keeps (keeps (keeps s0_0 n0) n0) n0) n0) n0), (keeps (keeps (keeps (keeps (keeps s0_1 n0) n0) n0) n0) n0), (keeps (keeps (keeps (keeps (keeps s0_2 n0) n0) n0) n0) n0), (keeps (keeps (keeps (keeps (keeps s0_3 n0) n0) n0) n0) n0), (keeps (keeps (keeps (keeps (keeps s0_4 n0) n0) n0) n0) n0), (keeps (keeps (keeps (keeps (keeps s1_0 n1) n1) n1) n1) n1), (keeps (keeps (keeps (keeps (keeps s1_1 n1) n1) n1) n1) n1), (keeps (keeps (keeps (keeps (keeps s1_2 n1) n1) n1) n1) n1), (keeps (keeps (keeps (keeps (keeps s1_3 n1) n1) n1) n1) n1), (keeps (keeps (keeps (keeps (keeps s1_4 n1) n1) n1) n1) n1), (keeps (keeps (keeps (keeps (keeps t0_0 n100) n100) n100) n100) n100), (keeps (keeps (keeps (keeps (keeps t0_1 n100) n100) n100) n100) n100), (keeps (keeps (keeps (keeps (keeps t1_0 n101) n101) n101) n101) n101), (keeps (keeps (keeps (keeps (keeps t1_1 n101) n101) n101) n101) n101)⟩ | exact ⟨s0_0, s0_1, s0_2, s0_3, s0_4, s1_0, s1_1, s1_2, s1_3, s1_4, t0_0, t0_1, t1_0, t1_1⟩) (first
    | (have _ := mk6; go_at_call 100; refine (rmake_any (na x * (nd y : Int) + na y * (nd x : Int)) (nb x * (nd y : Int) + nb y * (nd x : Int)) (nd x * nd y) S3 S6 S7 d3 d6 d7 _ (by exact h3) (by exact h6) (by exact h7) (by have h := (ab_add_ln (K := 274877906944) (Nat.le_trans (ab_muln_ln HSX.out.1 HSY.out.2.2) (by omega)) (Nat.le_trans (ab_muln_ln HSY.out.1 HSX.out.2.2) (by omega))); have h3 := HSX.out; have h4 := HSY.out; unfold sz at h3 h4; omega) (by have h := (ab_add_ln (K := 274877906944) (Nat.le_trans (ab_muln_ln HSX.out.2.1 HSY.out.2.2) (by omega)) (Nat.le_trans (ab_muln_ln HSY.out.2.1 HSX.out.2.2) (by omega))); have h3 := HSX.out; have h4 := HSY.out; unfold sz at h3 h4; omega) (by have h := (nat_mul_ln HSX.out.2.2 HSY.out.2.2); have h3 := HSX.out; have h4 := HSY.out; unfold sz at h3 h4; omega) (Nat.mul_ne_zero (nd_ne0 x) (nd_ne0 y))).mono ?_; rintro e w9 ⟨Z1, Z2, Z3, cZ1, cZ2, cZ3, rfl, h8, hb9⟩; replace s0_0 := keepc hb9 s0_0 l0; replace s0_1 := keepc hb9 s0_1 l0; replace s0_2 := keepc hb9 s0_2 l0; replace s0_3 := keepc hb9 s0_3 l0; replace s0_4 := keepc hb9 s0_4 l0; replace s1_0 := keepc hb9 s1_0 l1; replace s1_1 := keepc hb9 s1_1 l1; replace s1_2 := keepc hb9 s1_2 l1; replace s1_3 := keepc hb9 s1_3 l1; replace s1_4 := keepc hb9 s1_4 l1; replace t0_0 := keepc hb9 t0_0 l100; replace t0_1 := keepc hb9 t0_1 l100; replace t1_0 := keepc hb9 t1_0 l101; replace t1_1 := keepc hb9 t1_1 l101; replace r0 := keepc hb9 r0 l2; replace f0 := keepf hb9 f0 l2; replace r1 := keepc hb9 r1 l2; replace f1 := keepf hb9 f1 l2; replace r2 := keepc hb9 r2 l2; replace f2 := keepf hb9 f2 l2; replace r3 := keepc hb9 r3 l2; replace f3 := keepf hb9 f3 l2; replace r4 := keepc hb9 r4 l2; replace f4 := keepf hb9 f4 l2; replace l0 := Nat.lt_of_lt_of_le l0 hb9.size; replace l1 := Nat.lt_of_lt_of_le l1 hb9.size; replace l2 := Nat.lt_of_lt_of_le l2 hb9.size; replace l100 := Nat.lt_of_lt_of_le l100 hb9.size; replace l101 := Nat.lt_of_lt_of_le l101 hb9.size; replace hx1 := hx1.to hb9; replace hx2 := hx2.to hb9; replace hx3 := hx3.to hb9; replace hy1 := hy1.to hb9; replace hy2 := hy2.to hb9; replace hy3 := hy3.to hb9; replace h1 := h1.to hb9; replace h2 := h2.to hb9; replace h3 := h3.to hb9; replace h4 := h4.to hb9; replace h5 := h5.to hb9; replace h6 := h6.to hb9; replace h7 := h7.to hb9; replace HW := Lib.hid (hstep HW hb9); clear hb9; have mk7 : True := trivial)
    | (have _ := mk5; go_at_call 103; refine (rnatMul_any (nd x) (nd y) A3 B3 cA3 cB3 _ (by exact hx3) (by exact hy3) (by have := HSX.out; unfold sz at this; omega) (by have := HSY.out; unfold sz at this; omega)).mono ?_; rintro e w8 ⟨S7, d7, rfl, h7, hb8⟩; replace s0_0 := keepc hb8 s0_0 l0; replace s0_1 := keepc hb8 s0_1 l0; replace s0_2 := keepc hb8 s0_2 l0; replace s0_3 := keepc hb8 s0_3 l0; replace s0_4 := keepc hb8 s0_4 l0; replace s1_0 := keepc hb8 s1_0 l1; replace s1_1 := keepc hb8 s1_1 l1; replace s1_2 := keepc hb8 s1_2 l1; replace s1_3 := keepc hb8 s1_3 l1; replace s1_4 := keepc hb8 s1_4 l1; replace t0_0 := keepc hb8 t0_0 l100; replace t0_1 := keepc hb8 t0_1 l100; replace t1_0 := keepc hb8 t1_0 l101; replace t1_1 := keepc hb8 t1_1 l101; replace r0 := keepc hb8 r0 l2; replace f0 := keepf hb8 f0 l2; replace r1 := keepc hb8 r1 l2; replace f1 := keepf hb8 f1 l2; replace r2 := keepc hb8 r2 l2; replace f2 := keepf hb8 f2 l2; replace r3 := keepc hb8 r3 l2; replace f3 := keepf hb8 f3 l2; replace r4 := keepc hb8 r4 l2; replace f4 := keepf hb8 f4 l2; replace l0 := Nat.lt_of_lt_of_le l0 hb8.size; replace l1 := Nat.lt_of_lt_of_le l1 hb8.size; replace l2 := Nat.lt_of_lt_of_le l2 hb8.size; replace l100 := Nat.lt_of_lt_of_le l100 hb8.size; replace l101 := Nat.lt_of_lt_of_le l101 hb8.size; replace hx1 := hx1.to hb8; replace hx2 := hx2.to hb8; replace hx3 := hx3.to hb8; replace hy1 := hy1.to hb8; replace hy2 := hy2.to hb8; replace hy3 := hy3.to hb8; replace h1 := h1.to hb8; replace h2 := h2.to hb8; replace h3 := h3.to hb8; replace h4 := h4.to hb8; replace h5 := h5.to hb8; replace h6 := h6.to hb8; replace HW := Lib.hid (hstep HW hb8); clear hb8; have mk6 : True := trivial)
    | (have _ := mk4; go_at_call 101; refine (rplus_any (nb x * (nd y : Int)) (nb y * (nd x : Int)) S4 S5 d4 d5 _ (by exact h4) (by exact h5) (by have h := ((ab_muln_ln HSX.out.2.1 HSY.out.2.2)); have h3 := HSX.out; have h4 := HSY.out; unfold sz at h3 h4; omega) (by have h := ((ab_muln_ln HSY.out.2.1 HSX.out.2.2)); have h3 := HSX.out; have h4 := HSY.out; unfold sz at h3 h4; omega)).mono ?_; rintro e w7 ⟨S6, d6, rfl, h6, hb7⟩; replace s0_0 := keepc hb7 s0_0 l0; replace s0_1 := keepc hb7 s0_1 l0; replace s0_2 := keepc hb7 s0_2 l0; replace s0_3 := keepc hb7 s0_3 l0; replace s0_4 := keepc hb7 s0_4 l0; replace s1_0 := keepc hb7 s1_0 l1; replace s1_1 := keepc hb7 s1_1 l1; replace s1_2 := keepc hb7 s1_2 l1; replace s1_3 := keepc hb7 s1_3 l1; replace s1_4 := keepc hb7 s1_4 l1; replace t0_0 := keepc hb7 t0_0 l100; replace t0_1 := keepc hb7 t0_1 l100; replace t1_0 := keepc hb7 t1_0 l101; replace t1_1 := keepc hb7 t1_1 l101; replace r0 := keepc hb7 r0 l2; replace f0 := keepf hb7 f0 l2; replace r1 := keepc hb7 r1 l2; replace f1 := keepf hb7 f1 l2; replace r2 := keepc hb7 r2 l2; replace f2 := keepf hb7 f2 l2; replace r3 := keepc hb7 r3 l2; replace f3 := keepf hb7 f3 l2; replace r4 := keepc hb7 r4 l2; replace f4 := keepf hb7 f4 l2; replace l0 := Nat.lt_of_lt_of_le l0 hb7.size; replace l1 := Nat.lt_of_lt_of_le l1 hb7.size; replace l2 := Nat.lt_of_lt_of_le l2 hb7.size; replace l100 := Nat.lt_of_lt_of_le l100 hb7.size; replace l101 := Nat.lt_of_lt_of_le l101 hb7.size; replace hx1 := hx1.to hb7; replace hx2 := hx2.to hb7; replace hx3 := hx3.to hb7; replace hy1 := hy1.to hb7; replace hy2 := hy2.to hb7; replace hy3 := hy3.to hb7; replace h1 := h1.to hb7; replace h2 := h2.to hb7; replace h3 := h3.to hb7; replace h4 := h4.to hb7; replace h5 := h5.to hb7; replace HW := Lib.hid (hstep HW hb7); clear hb7; have mk5 : True := trivial)
    | (have _ := mk3; go_at_call 102; refine (rtimes_n (nb y) (nd x) B2 A3 cB2 cA3 _ (by exact hy2) (by exact hx3) (by have := HSY.out; unfold sz at this; omega) (by have := HSX.out; unfold sz at this; omega)).mono ?_; rintro e w6 ⟨S5, d5, rfl, h5, hb6⟩; replace s0_0 := keepc hb6 s0_0 l0; replace s0_1 := keepc hb6 s0_1 l0; replace s0_2 := keepc hb6 s0_2 l0; replace s0_3 := keepc hb6 s0_3 l0; replace s0_4 := keepc hb6 s0_4 l0; replace s1_0 := keepc hb6 s1_0 l1; replace s1_1 := keepc hb6 s1_1 l1; replace s1_2 := keepc hb6 s1_2 l1; replace s1_3 := keepc hb6 s1_3 l1; replace s1_4 := keepc hb6 s1_4 l1; replace t0_0 := keepc hb6 t0_0 l100; replace t0_1 := keepc hb6 t0_1 l100; replace t1_0 := keepc hb6 t1_0 l101; replace t1_1 := keepc hb6 t1_1 l101; replace r0 := keepc hb6 r0 l2; replace f0 := keepf hb6 f0 l2; replace r1 := keepc hb6 r1 l2; replace f1 := keepf hb6 f1 l2; replace r2 := keepc hb6 r2 l2; replace f2 := keepf hb6 f2 l2; replace r3 := keepc hb6 r3 l2; replace f3 := keepf hb6 f3 l2; replace r4 := keepc hb6 r4 l2; replace f4 := keepf hb6 f4 l2; replace l0 := Nat.lt_of_lt_of_le l0 hb6.size; replace l1 := Nat.lt_of_lt_of_le l1 hb6.size; replace l2 := Nat.lt_of_lt_of_le l2 hb6.size; replace l100 := Nat.lt_of_lt_of_le l100 hb6.size; replace l101 := Nat.lt_of_lt_of_le l101 hb6.size; replace hx1 := hx1.to hb6; replace hx2 := hx2.to hb6; replace hx3 := hx3.to hb6; replace hy1 := hy1.to hb6; replace hy2 := hy2.to hb6; replace hy3 := hy3.to hb6; replace h1 := h1.to hb6; replace h2 := h2.to hb6; replace h3 := h3.to hb6; replace h4 := h4.to hb6; replace HW := Lib.hid (hstep HW hb6); clear hb6; have mk4 : True := trivial)
    | (have _ := mk2; go_at_call 102; refine (rtimes_n (nb x) (nd y) A2 B3 cA2 cB3 _ (by exact hx2) (by exact hy3) (by have := HSX.out; unfold sz at this; omega) (by have := HSY.out; unfold sz at this; omega)).mono ?_; rintro e w5 ⟨S4, d4, rfl, h4, hb5⟩; replace s0_0 := keepc hb5 s0_0 l0; replace s0_1 := keepc hb5 s0_1 l0; replace s0_2 := keepc hb5 s0_2 l0; replace s0_3 := keepc hb5 s0_3 l0; replace s0_4 := keepc hb5 s0_4 l0; replace s1_0 := keepc hb5 s1_0 l1; replace s1_1 := keepc hb5 s1_1 l1; replace s1_2 := keepc hb5 s1_2 l1; replace s1_3 := keepc hb5 s1_3 l1; replace s1_4 := keepc hb5 s1_4 l1; replace t0_0 := keepc hb5 t0_0 l100; replace t0_1 := keepc hb5 t0_1 l100; replace t1_0 := keepc hb5 t1_0 l101; replace t1_1 := keepc hb5 t1_1 l101; replace r0 := keepc hb5 r0 l2; replace f0 := keepf hb5 f0 l2; replace r1 := keepc hb5 r1 l2; replace f1 := keepf hb5 f1 l2; replace r2 := keepc hb5 r2 l2; replace f2 := keepf hb5 f2 l2; replace r3 := keepc hb5 r3 l2; replace f3 := keepf hb5 f3 l2; replace r4 := keepc hb5 r4 l2; replace f4 := keepf hb5 f4 l2; replace l0 := Nat.lt_of_lt_of_le l0 hb5.size; replace l1 := Nat.lt_of_lt_of_le l1 hb5.size; replace l2 := Nat.lt_of_lt_of_le l2 hb5.size; replace l100 := Nat.lt_of_lt_of_le l100 hb5.size; replace l101 := Nat.lt_of_lt_of_le l101 hb5.size; replace hx1 := hx1.to hb5; replace hx2 := hx2.to hb5; replace hx3 := hx3.to hb5; replace hy1 := hy1.to hb5; replace hy2 := hy2.to hb5; replace hy3 := hy3.to hb5; replace h1 := h1.to hb5; replace h2 := h2.to hb5; replace h3 := h3.to hb5; replace HW := Lib.hid (hstep HW hb5); clear hb5; have mk3 : True := trivial)
    | (have _ := mk1; go_at_call 101; refine (rplus_any (na x * (nd y : Int)) (na y * (nd x : Int)) S1 S2 d1 d2 _ (by exact h1) (by exact h2) (by have h := ((ab_muln_ln HSX.out.1 HSY.out.2.2)); have h3 := HSX.out; have h4 := HSY.out; unfold sz at h3 h4; omega) (by have h := ((ab_muln_ln HSY.out.1 HSX.out.2.2)); have h3 := HSX.out; have h4 := HSY.out; unfold sz at h3 h4; omega)).mono ?_; rintro e w4 ⟨S3, d3, rfl, h3, hb4⟩; replace s0_0 := keepc hb4 s0_0 l0; replace s0_1 := keepc hb4 s0_1 l0; replace s0_2 := keepc hb4 s0_2 l0; replace s0_3 := keepc hb4 s0_3 l0; replace s0_4 := keepc hb4 s0_4 l0; replace s1_0 := keepc hb4 s1_0 l1; replace s1_1 := keepc hb4 s1_1 l1; replace s1_2 := keepc hb4 s1_2 l1; replace s1_3 := keepc hb4 s1_3 l1; replace s1_4 := keepc hb4 s1_4 l1; replace t0_0 := keepc hb4 t0_0 l100; replace t0_1 := keepc hb4 t0_1 l100; replace t1_0 := keepc hb4 t1_0 l101; replace t1_1 := keepc hb4 t1_1 l101; replace r0 := keepc hb4 r0 l2; replace f0 := keepf hb4 f0 l2; replace r1 := keepc hb4 r1 l2; replace f1 := keepf hb4 f1 l2; replace r2 := keepc hb4 r2 l2; replace f2 := keepf hb4 f2 l2; replace r3 := keepc hb4 r3 l2; replace f3 := keepf hb4 f3 l2; replace r4 := keepc hb4 r4 l2; replace f4 := keepf hb4 f4 l2; replace l0 := Nat.lt_of_lt_of_le l0 hb4.size; replace l1 := Nat.lt_of_lt_of_le l1 hb4.size; replace l2 := Nat.lt_of_lt_of_le l2 hb4.size; replace l100 := Nat.lt_of_lt_of_le l100 hb4.size; replace l101 := Nat.lt_of_lt_of_le l101 hb4.size; replace hx1 := hx1.to hb4; replace hx2 := hx2.to hb4; replace hx3 := hx3.to hb4; replace hy1 := hy1.to hb4; replace hy2 := hy2.to hb4; replace hy3 := hy3.to hb4; replace h1 := h1.to hb4; replace h2 := h2.to hb4; replace HW := Lib.hid (hstep HW hb4); clear hb4; have mk2 : True := trivial)
    | (have _ := mk0; go_at_call 102; refine (rtimes_n (na y) (nd x) B1 A3 cB1 cA3 _ (by exact hy1) (by exact hx3) (by have := HSY.out; unfold sz at this; omega) (by have := HSX.out; unfold sz at this; omega)).mono ?_; rintro e w3 ⟨S2, d2, rfl, h2, hb3⟩; replace s0_0 := keepc hb3 s0_0 l0; replace s0_1 := keepc hb3 s0_1 l0; replace s0_2 := keepc hb3 s0_2 l0; replace s0_3 := keepc hb3 s0_3 l0; replace s0_4 := keepc hb3 s0_4 l0; replace s1_0 := keepc hb3 s1_0 l1; replace s1_1 := keepc hb3 s1_1 l1; replace s1_2 := keepc hb3 s1_2 l1; replace s1_3 := keepc hb3 s1_3 l1; replace s1_4 := keepc hb3 s1_4 l1; replace t0_0 := keepc hb3 t0_0 l100; replace t0_1 := keepc hb3 t0_1 l100; replace t1_0 := keepc hb3 t1_0 l101; replace t1_1 := keepc hb3 t1_1 l101; replace r0 := keepc hb3 r0 l2; replace f0 := keepf hb3 f0 l2; replace r1 := keepc hb3 r1 l2; replace f1 := keepf hb3 f1 l2; replace r2 := keepc hb3 r2 l2; replace f2 := keepf hb3 f2 l2; replace r3 := keepc hb3 r3 l2; replace f3 := keepf hb3 f3 l2; replace r4 := keepc hb3 r4 l2; replace f4 := keepf hb3 f4 l2; replace l0 := Nat.lt_of_lt_of_le l0 hb3.size; replace l1 := Nat.lt_of_lt_of_le l1 hb3.size; replace l2 := Nat.lt_of_lt_of_le l2 hb3.size; replace l100 := Nat.lt_of_lt_of_le l100 hb3.size; replace l101 := Nat.lt_of_lt_of_le l101 hb3.size; replace hx1 := hx1.to hb3; replace hx2 := hx2.to hb3; replace hx3 := hx3.to hb3; replace hy1 := hy1.to hb3; replace hy2 := hy2.to hb3; replace hy3 := hy3.to hb3; replace h1 := h1.to hb3; replace HW := Lib.hid (hstep HW hb3); clear hb3; have mk1 : True := trivial)
    | (go_at_call 102; refine (rtimes_n (na x) (nd y) A1 B3 cA1 cB3 _ (by exact hx1) (by exact hy3) (by have := HSX.out; unfold sz at this; omega) (by have := HSY.out; unfold sz at this; omega)).mono ?_; rintro e w2 ⟨S1, d1, rfl, h1, hb2⟩; have hb2 := undrew hb2; replace s0_0 := keepc hb2 s0_0 l0; replace s0_1 := keepc hb2 s0_1 l0; replace s0_2 := keepc hb2 s0_2 l0; replace s0_3 := keepc hb2 s0_3 l0; replace s0_4 := keepc hb2 s0_4 l0; replace s1_0 := keepc hb2 s1_0 l1; replace s1_1 := keepc hb2 s1_1 l1; replace s1_2 := keepc hb2 s1_2 l1; replace s1_3 := keepc hb2 s1_3 l1; replace s1_4 := keepc hb2 s1_4 l1; replace t0_0 := keepc hb2 t0_0 l100; replace t0_1 := keepc hb2 t0_1 l100; replace t1_0 := keepc hb2 t1_0 l101; replace t1_1 := keepc hb2 t1_1 l101; replace r0 := keepc hb2 r0 l2; replace f0 := keepf hb2 f0 l2; replace r1 := keepc hb2 r1 l2; replace f1 := keepf hb2 f1 l2; replace r2 := keepc hb2 r2 l2; replace f2 := keepf hb2 f2 l2; replace r3 := keepc hb2 r3 l2; replace f3 := keepf hb2 f3 l2; replace r4 := keepc hb2 r4 l2; replace f4 := keepf hb2 f4 l2; replace l0 := Nat.lt_of_lt_of_le l0 hb2.size; replace l1 := Nat.lt_of_lt_of_le l1 hb2.size; replace l2 := Nat.lt_of_lt_of_le l2 hb2.size; replace l100 := Nat.lt_of_lt_of_le l100 hb2.size; replace l101 := Nat.lt_of_lt_of_le l101 hb2.size; replace hx1 := hx1.to hb2; replace hx2 := hx2.to hb2; replace hx3 := hx3.to hb2; replace hy1 := hy1.to hb2; replace hy2 := hy2.to hb2; replace hy3 := hy3.to hb2; replace HW := Lib.hid (hstep HW hb2); clear hb2; have mk0 : True := trivial))
  go_wp2_with fail
  exact bodyPost_ret (v := .agg #[.bool (sn (na (fr (na x * (nd y : Int) + na y * (nd x : Int)) (nb x * (nd y : Int) + nb y * (nd x : Int)) (nd x * nd y)))), .slice Z1 (ln (ab (na (fr (na x * (nd y : Int) + na y * (nd x : Int)) (nb x * (nd y : Int) + nb y * (nd x : Int)) (nd x * nd y))))) cZ1, .bool (sn (nb (fr (na x * (nd y : Int) + na y * (nd x : Int)) (nb x * (nd y : Int) + nb y * (nd x : Int)) (nd x * nd y)))), .slice Z2 (ln (ab (nb (fr (na x * (nd y : Int) + na y * (nd x : Int)) (nb x * (nd y : Int) + nb y * (nd x : Int)) (nd x * nd y))))) cZ2, .slice Z3 (ln (nd (fr (na x * (nd y : Int) + na y * (nd x : Int)) (nb x * (nd y : Int) + nb y * (nd x : Int)) (nd x * nd y)))) cZ3]) (by simp [results, Tryz.results27, go_sem, r0, r1, r2, r3, r4, f0, f1, f2, f3, f4]) rfl (retNumC_fin HW h8 (by omega) r0)

theorem rmake_re (z : Int) (d : Nat) (A D : Option Addr) (cA cD : Nat) (w : World) (hx : Nat32 w A (ab z)) (hd : Nat32 w D d) (hbx : ln (ab z) ≤ 1099511627776) (hbd : ln d ≤ 1099511627776) (hd0 : d ≠ 0) :
    Calls Tryz.prog 100 #[.agg #[.bool (sn z), .slice A (ln (ab z)) cA], .agg #[.bool false, .slice none 0 0], .slice D (ln d) cD] w (RetNumC w (fr z 0 d)) := by
  have h := rmake_any z 0 d A none D cA 0 cD w hx (Nat32.zero _ _) hd hbx (by show ln 0 ≤ _; rw [ln_zero]; omega) hbd hd0
  rw [show ab 0 = 0 from rfl, ln_zero, show sn 0 = false from rfl] at h
  exact h
theorem rmake_im (z : Int) (d : Nat) (A D : Option Addr) (cA cD : Nat) (w : World) (hx : Nat32 w A (ab z)) (hd : Nat32 w D d) (hbx : ln (ab z) ≤ 1099511627776) (hbd : ln d ≤ 1099511627776) (hd0 : d ≠ 0) :
    Calls Tryz.prog 100 #[.agg #[.bool false, .slice none 0 0], .agg #[.bool (sn z), .slice A (ln (ab z)) cA], .slice D (ln d) cD] w (RetNumC w (fr 0 z d)) := by
  have h := rmake_any 0 z d none A D 0 cA cD w (Nat32.zero _ _) hx hd (by show ln 0 ≤ _; rw [ln_zero]; omega) hbx hbd hd0
  rw [show ab 0 = 0 from rfl, ln_zero, show sn 0 = false from rfl] at h
  exact h

end Go.Proofs.YtgpmlhpgdalheaaGreat

namespace Go.Proofs.YtgpmlhpgdalheaaGreat
open Go.RowKit Pl
set_option linter.unusedVariables false
set_option linter.unusedSimpArgs false

/-- The five cells of a number of the reference. -/
def Cells5c (w : World) (g : Nat) (q : Cx) (A1 A2 A3 : Option Addr) (k1 k2 k3 : Nat) : Prop := w.cell? ⟨g, 0, none⟩ = some (.bool (sn (na q))) ∧ w.cell? ⟨g, 1, none⟩ = some (.slice A1 (ln (ab (na q))) k1) ∧ w.cell? ⟨g, 2, none⟩ = some (.bool (sn (nb q))) ∧ w.cell? ⟨g, 3, none⟩ = some (.slice A2 (ln (ab (nb q))) k2) ∧ w.cell? ⟨g, 4, none⟩ = some (.slice A3 (ln (nd q)) k3)
/-- A Num is stored into the five cells of the block p. -/
def set5c (w : World) (p : Nat) (q : Cx) (A1 A2 A3 : Option Addr) (k1 k2 k3 : Nat) : World :=
  ((((w.setCell ⟨p, 0, none⟩ (.bool (sn (na q)))).setCell ⟨p, 1, none⟩ (.slice A1 (ln (ab (na q))) k1)).setCell ⟨p, 2, none⟩ (.bool (sn (nb q)))).setCell ⟨p, 3, none⟩ (.slice A2 (ln (ab (nb q))) k2)).setCell ⟨p, 4, none⟩ (.slice A3 (ln (nd q)) k3)
theorem set5c_size (w : World) (p : Nat) (q : Cx) (A1 A2 A3 : Option Addr) (k1 k2 k3 : Nat) : (set5c w p q A1 A2 A3 k1 k2 k3).heap.size = w.heap.size := by simp [set5c, World.setCell]
theorem set5c_cell {w : World} {p b i : Nat} {q : Cx} {A1 A2 A3 : Option Addr} {k1 k2 k3 : Nat} {v : Value} (h : w.cell? ⟨b, i, none⟩ = some v) (h1 : b ≠ p) : (set5c w p q A1 A2 A3 k1 k2 k3).cell? ⟨b, i, none⟩ = some v := keepo (keepo (keepo (keepo (keepo h (.inl h1)) (.inl h1)) (.inl h1)) (.inl h1)) (.inl h1)
theorem set5c_frozen {w : World} {p b i : Nat} {q : Cx} {A1 A2 A3 : Option Addr} {k1 k2 k3 : Nat} {v : Bool} (h : w.frozen? ⟨b, i, none⟩ = v) : (set5c w p q A1 A2 A3 k1 k2 k3).frozen? ⟨b, i, none⟩ = v := keepof (keepof (keepof (keepof (keepof h))))
theorem set5c_below {w W : World} {B p : Nat} {q : Cx} {A1 A2 A3 : Option Addr} {k1 k2 k3 : Nat} (h : Below B w W) (hp : B ≤ p) : Below B w (set5c W p q A1 A2 A3 k1 k2 k3) :=
  ((((h.setCell (by exact hp) _).setCell (by exact hp) _).setCell (by exact hp) _).setCell (by exact hp) _).setCell (by exact hp) _
theorem set5c_nat {w : World} {p n : Nat} {q : Cx} {A1 A2 A3 A : Option Addr} {k1 k2 k3 : Nat} {c : Bool} (h : Nat32 w A n) (u : w.cell? ⟨p, 0, none⟩ = some (.bool c)) : Nat32 (set5c w p q A1 A2 A3 k1 k2 k3) A n := by
  have nb : ∀ (b : Bool) k m, Value.bool b ≠ .int k m := by intro b k m e; cases e
  have a1 := cell_self (u := .bool (sn (na q))) u
  have a2 := keepo (R := p) (j := 1) (u := .slice A1 (ln (ab (na q))) k1) a1 (.inr (by omega))
  have a3 := keepo (R := p) (j := 2) (u := .bool (sn (Pl.nb q))) a2 (.inr (by omega))
  have a4 := keepo (R := p) (j := 3) (u := .slice A2 (ln (ab (Pl.nb q))) k2) a3 (.inr (by omega))
  exact ((((h.setBox u (nb _)).setBox a1 (nb _)).setBox a2 (nb _)).setBox a3 (nb _)).setBox a4 (nb _)
theorem set5c_num3 {w : World} {p : Nat} {q r : Cx} {A1 A2 A3 B1 B2 B3 : Option Addr} {k1 k2 k3 : Nat} {c : Bool} (h : Num3C w B1 B2 B3 r) (u : w.cell? ⟨p, 0, none⟩ = some (.bool c)) : Num3C (set5c w p q A1 A2 A3 k1 k2 k3) B1 B2 B3 r := ⟨set5c_nat h.1 u, set5c_nat h.2.1 u, set5c_nat h.2.2 u⟩
theorem set5c_self {w : World} {p : Nat} {q : Cx} {A1 A2 A3 : Option Addr} {k1 k2 k3 : Nat} {v0 v1 v2 v3 v4 : Value} (u0 : w.cell? ⟨p, 0, none⟩ = some v0) (u1 : w.cell? ⟨p, 1, none⟩ = some v1) (u2 : w.cell? ⟨p, 2, none⟩ = some v2) (u3 : w.cell? ⟨p, 3, none⟩ = some v3) (u4 : w.cell? ⟨p, 4, none⟩ = some v4) : Cells5c (set5c w p q A1 A2 A3 k1 k2 k3) p q A1 A2 A3 k1 k2 k3 := by
  unfold set5c
  have o0 := cell_self (u := .bool (sn (na q))) u0
  refine ⟨?_, ?_, ?_, ?_, ?_⟩
  · exact keepo (keepo (keepo (keepo o0 (by omega)) (by omega)) (by omega)) (by omega)
  · exact keepo (keepo (keepo (cell_self (keepo u1 (by omega))) (by omega)) (by omega)) (by omega)
  · exact keepo (keepo (cell_self (keepo (keepo u2 (by omega)) (by omega))) (by omega)) (by omega)
  · exact keepo (cell_self (keepo (keepo (keepo u3 (by omega)) (by omega)) (by omega))) (by omega)
  · exact cell_self (keepo (keepo (keepo (keepo u4 (by omega)) (by omega)) (by omega)) (by omega))

set_option maxHeartbeats 4000000 in
theorem rof_more (a b d : Int) (w : World) (ha : -9223372036854775808 ≤ a ∧ a ≤ 9223372036854775807) (hb : -9223372036854775808 ≤ b ∧ b ≤ 9223372036854775807) (hd : -9223372036854775808 ≤ d ∧ d ≤ 9223372036854775807) (h : d ≠ 0) :
    Calls Tryz.prog 70 #[.agg #[.int .i64 a, .int .i64 b, .int .i64 d]] w (RetNumC w (frz a b d)) := by
  have HA := Lib.hid ha
  have HB := Lib.hid hb
  have HD := Lib.hid hd
  have H0 := Lib.hid h
  have t : (d == 0) = false := by rw [beq_eq_false_iff_ne]; omega
  clear ha hb hd h
  go_enter Tryz.func70, Tryz.ntmps70
  go_wp2_with fail
  obtain ⟨W, hW⟩ : ∃ W : World, W = ((w.alloc (.cells #[.int .i64 a, .int .i64 b, .int .i64 d] 23)).alloc (.cells #[.bool false, .slice none 0 0, .bool false, .slice none 0 0, .slice none 0 0] 34)) := ⟨_, rfl⟩
  have s0_0 : W.cell? ⟨w.heap.size, 0, none⟩ = some (.int .i64 a) := by subst hW; go_simp
  have s0_1 : W.cell? ⟨w.heap.size, 1, none⟩ = some (.int .i64 b) := by subst hW; go_simp
  have s0_2 : W.cell? ⟨w.heap.size, 2, none⟩ = some (.int .i64 d) := by subst hW; go_simp
  have r0 : W.cell? ⟨w.heap.size + 1, 0, none⟩ = some (.bool false) := by subst hW; go_simp
  have f0 : W.frozen? ⟨w.heap.size + 1, 0, none⟩ = false := by subst hW; go_simp
  have r1 : W.cell? ⟨w.heap.size + 1, 1, none⟩ = some (.slice none 0 0) := by subst hW; go_simp
  have f1 : W.frozen? ⟨w.heap.size + 1, 1, none⟩ = false := by subst hW; go_simp
  have r2 : W.cell? ⟨w.heap.size + 1, 2, none⟩ = some (.bool false) := by subst hW; go_simp
  have f2 : W.frozen? ⟨w.heap.size + 1, 2, none⟩ = false := by subst hW; go_simp
  have r3 : W.cell? ⟨w.heap.size + 1, 3, none⟩ = some (.slice none 0 0) := by subst hW; go_simp
  have f3 : W.frozen? ⟨w.heap.size + 1, 3, none⟩ = false := by subst hW; go_simp
  have r4 : W.cell? ⟨w.heap.size + 1, 4, none⟩ = some (.slice none 0 0) := by subst hW; go_simp
  have f4 : W.frozen? ⟨w.heap.size + 1, 4, none⟩ = false := by subst hW; go_simp
  have HW : Below w.heap.size w W := by subst hW; exact (((Below.refl w.heap.size w).alloc (Nat.le_refl _) _).alloc (by simp) _)
  have l0 : w.heap.size < W.heap.size := by subst hW; simp <;> omega
  have l1 : w.heap.size + 1 < W.heap.size := by subst hW; simp
  have n0 : w.heap.size ≠ w.heap.size + 1 := by omega
  rw [← hW]
  clear hW
  replace HW := Lib.hid HW
  refine (rnew_any a b d _ HA.out HB.out HD.out H0.out).mono ?_
  rintro e w1 ⟨A1, A2, A3, cA1, cA2, cA3, rfl, h1, hb1⟩
  replace s0_0 := keepc hb1 s0_0 l0
  replace s0_1 := keepc hb1 s0_1 l0
  replace s0_2 := keepc hb1 s0_2 l0
  replace r0 := keepc hb1 r0 l1
  replace f0 := keepf hb1 f0 l1
  replace r1 := keepc hb1 r1 l1
  replace f1 := keepf hb1 f1 l1
  replace r2 := keepc hb1 r2 l1
  replace f2 := keepf hb1 f2 l1
  replace r3 := keepc hb1 r3 l1
  replace f3 := keepf hb1 f3 l1
  replace r4 := keepc hb1 r4 l1
  replace f4 := keepf hb1 f4 l1
  replace l0 := Nat.lt_of_lt_of_le l0 hb1.size
  replace l1 := Nat.lt_of_lt_of_le l1 hb1.size
  replace HW := Lib.hid (hstep HW hb1)
  clear hb1
  go_wp2_with fail
  obtain ⟨X, hX⟩ : ∃ X : World, X = set5c w1 (w.heap.size + 1) (frz a b d) A1 A2 A3 cA1 cA2 cA3 := ⟨_, rfl⟩
  have hw : set5c w1 (w.heap.size + 1) (frz a b d) A1 A2 A3 cA1 cA2 cA3 = X := hX.symm
  unfold set5c at hw
  rw [hw]
  clear hw
  have c5 := set5c_self (q := (frz a b d)) (A1 := A1) (A2 := A2) (A3 := A3) (k1 := cA1) (k2 := cA2) (k3 := cA3) r0 r1 r2 r3 r4
  rw [← hX] at c5
  have HX : Hid (Below w.heap.size w X) := by rw [hX]; exact Lib.hid (set5c_below HW.out (by omega))
  have hx := set5c_num3 (q := (frz a b d)) (A1 := A1) (A2 := A2) (A3 := A3) (k1 := cA1) (k2 := cA2) (k3 := cA3) h1 r0
  rw [← hX] at hx
  have lX : w.heap.size + 1 < X.heap.size := by rw [hX, set5c_size]; exact l1
  clear hX
  obtain ⟨Y, hY⟩ : ∃ Y : World, Y = X.alloc (.cells #[.bool (sn (na (frz a b d))), .slice A1 (ln (ab (na (frz a b d)))) cA1, .bool (sn (nb (frz a b d))), .slice A2 (ln (ab (nb (frz a b d)))) cA2, .slice A3 (ln (nd (frz a b d))) cA3] 34) := ⟨_, rfl⟩
  have b1 : Below X.heap.size X Y := by rw [hY]; exact (Below.refl _ _).alloc (Nat.le_refl _) _
  rw [← hY]
  clear hY
  have hy := hx.to b1
  have k0 := keepc b1 c5.1 lX
  have k1 := keepc b1 c5.2.1 lX
  have k2 := keepc b1 c5.2.2.1 lX
  have k3 := keepc b1 c5.2.2.2.1 lX
  have k4 := keepc b1 c5.2.2.2.2 lX
  replace HX := Lib.hid (hstep HX b1)
  clear c5 r0 r1 r2 r3 r4 f0 f1 f2 f3 f4 b1
  exact bodyPost_ret (v := .agg #[.bool (sn (na (frz a b d))), .slice A1 (ln (ab (na (frz a b d)))) cA1, .bool (sn (nb (frz a b d))), .slice A2 (ln (ab (nb (frz a b d)))) cA2, .slice A3 (ln (nd (frz a b d))) cA3]) (by simp [results, Tryz.results70, go_sem, k0, k1, k2, k3, k4]) rfl ⟨A1, A2, A3, cA1, cA2, cA3, rfl, hy, HX.out⟩

set_option maxHeartbeats 4000000 in
theorem rof_zero0 (a b : Int) (q : Cx) (w : World) (HN : ∀ w, Calls Tryz.prog 131 #[.int .i64 a, .int .i64 b, .int .i64 1] w (RetNumCE w 0 q)) :
    Calls Tryz.prog 70 #[.agg #[.int .i64 a, .int .i64 b, .int .i64 0]] w (RetNumC w q) := by
  go_enter Tryz.func70, Tryz.ntmps70
  go_wp2_with fail
  obtain ⟨W, hW⟩ : ∃ W : World, W = ((w.alloc (.cells #[.int .i64 a, .int .i64 b, .int .i64 1] 23)).alloc (.cells #[.bool false, .slice none 0 0, .bool false, .slice none 0 0, .slice none 0 0] 34)) := ⟨_, rfl⟩
  have s0_0 : W.cell? ⟨w.heap.size, 0, none⟩ = some (.int .i64 a) := by subst hW; go_simp
  have s0_1 : W.cell? ⟨w.heap.size, 1, none⟩ = some (.int .i64 b) := by subst hW; go_simp
  have s0_2 : W.cell? ⟨w.heap.size, 2, none⟩ = some (.int .i64 1) := by subst hW; go_simp
  have r0 : W.cell? ⟨w.heap.size + 1, 0, none⟩ = some (.bool false) := by subst hW; go_simp
  have f0 : W.frozen? ⟨w.heap.size + 1, 0, none⟩ = false := by subst hW; go_simp
  have r1 : W.cell? ⟨w.heap.size + 1, 1, none⟩ = some (.slice none 0 0) := by subst hW; go_simp
  have f1 : W.frozen? ⟨w.heap.size + 1, 1, none⟩ = false := by subst hW; go_simp
  have r2 : W.cell? ⟨w.heap.size + 1, 2, none⟩ = some (.bool false) := by subst hW; go_simp
  have f2 : W.frozen? ⟨w.heap.size + 1, 2, none⟩ = false := by subst hW; go_simp
  have r3 : W.cell? ⟨w.heap.size + 1, 3, none⟩ = some (.slice none 0 0) := by subst hW; go_simp
  have f3 : W.frozen? ⟨w.heap.size + 1, 3, none⟩ = false := by subst hW; go_simp
  have r4 : W.cell? ⟨w.heap.size + 1, 4, none⟩ = some (.slice none 0 0) := by subst hW; go_simp
  have f4 : W.frozen? ⟨w.heap.size + 1, 4, none⟩ = false := by subst hW; go_simp
  have HW : Below w.heap.size w W := by subst hW; exact (((Below.refl w.heap.size w).alloc (Nat.le_refl _) _).alloc (by simp) _)
  have l0 : w.heap.size < W.heap.size := by subst hW; simp <;> omega
  have l1 : w.heap.size + 1 < W.heap.size := by subst hW; simp
  have n0 : w.heap.size ≠ w.heap.size + 1 := by omega
  rw [← hW]
  clear hW
  replace HW := Lib.hid HW
  refine (HN _).mono ?_
  rintro e w1 ⟨A1, A2, A3, cA1, cA2, cA3, rfl, h1, hb1⟩
  replace s0_0 := keepc hb1 s0_0 l0
  replace s0_1 := keepc hb1 s0_1 l0
  replace s0_2 := keepc hb1 s0_2 l0
  replace r0 := keepc hb1 r0 l1
  replace f0 := keepf hb1 f0 l1
  replace r1 := keepc hb1 r1 l1
  replace f1 := keepf hb1 f1 l1
  replace r2 := keepc hb1 r2 l1
  replace f2 := keepf hb1 f2 l1
  replace r3 := keepc hb1 r3 l1
  replace f3 := keepf hb1 f3 l1
  replace r4 := keepc hb1 r4 l1
  replace f4 := keepf hb1 f4 l1
  replace l0 := Nat.lt_of_lt_of_le l0 hb1.size
  replace l1 := Nat.lt_of_lt_of_le l1 hb1.size
  replace HW := Lib.hid (hstep HW hb1)
  clear hb1
  go_wp2_with fail
  obtain ⟨X, hX⟩ : ∃ X : World, X = set5c w1 (w.heap.size + 1) q A1 A2 A3 cA1 cA2 cA3 := ⟨_, rfl⟩
  have hw : set5c w1 (w.heap.size + 1) q A1 A2 A3 cA1 cA2 cA3 = X := hX.symm
  unfold set5c at hw
  rw [hw]
  clear hw
  have c5 := set5c_self (q := q) (A1 := A1) (A2 := A2) (A3 := A3) (k1 := cA1) (k2 := cA2) (k3 := cA3) r0 r1 r2 r3 r4
  rw [← hX] at c5
  have HX : Hid (Below w.heap.size w X) := by rw [hX]; exact Lib.hid (set5c_below HW.out (by omega))
  have hx := set5c_num3 (q := q) (A1 := A1) (A2 := A2) (A3 := A3) (k1 := cA1) (k2 := cA2) (k3 := cA3) h1 r0
  rw [← hX] at hx
  have lX : w.heap.size + 1 < X.heap.size := by rw [hX, set5c_size]; exact l1
  clear hX
  obtain ⟨Y, hY⟩ : ∃ Y : World, Y = X.alloc (.cells #[.bool (sn (na q)), .slice A1 (ln (ab (na q))) cA1, .bool (sn (nb q)), .slice A2 (ln (ab (nb q))) cA2, .slice A3 (ln (nd q)) cA3] 34) := ⟨_, rfl⟩
  have b1 : Below X.heap.size X Y := by rw [hY]; exact (Below.refl _ _).alloc (Nat.le_refl _) _
  rw [← hY]
  clear hY
  have hy := hx.to b1
  have k0 := keepc b1 c5.1 lX
  have k1 := keepc b1 c5.2.1 lX
  have k2 := keepc b1 c5.2.2.1 lX
  have k3 := keepc b1 c5.2.2.2.1 lX
  have k4 := keepc b1 c5.2.2.2.2 lX
  replace HX := Lib.hid (hstep HX b1)
  clear c5 r0 r1 r2 r3 r4 f0 f1 f2 f3 f4 b1
  exact bodyPost_ret (v := .agg #[.bool (sn (na q)), .slice A1 (ln (ab (na q))) cA1, .bool (sn (nb q)), .slice A2 (ln (ab (nb q))) cA2, .slice A3 (ln (nd q)) cA3]) (by simp [results, Tryz.results70, go_sem, k0, k1, k2, k3, k4]) rfl ⟨A1, A2, A3, cA1, cA2, cA3, rfl, hy, HX.out⟩

/-- 'Of' of the reference. -/
theorem rof_any (a b d : Int) (w : World) (ha : -9223372036854775808 ≤ a ∧ a ≤ 9223372036854775807) (hb : -9223372036854775808 ≤ b ∧ b ≤ 9223372036854775807) (hd : -9223372036854775808 ≤ d ∧ d ≤ 9223372036854775807) :
    Calls Tryz.prog 70 #[.agg #[.int .i64 a, .int .i64 b, .int .i64 d]] w (RetNumC w (ofv a b d)) := by
  by_cases h : d = 0
  · subst h; exact rof_zero0 a b (frz a b 1) w (fun w => rnew_any a b 1 w ha hb (by omega) (by omega))
  · have := rof_more a b d w ha hb hd h
    unfold ofv; rw [if_neg h]; exact this
end Go.Proofs.YtgpmlhpgdalheaaGreat

namespace Go.Proofs.YtgpmlhpgdalheaaGreat
open Go.RowKit Pl Fl
set_option linter.unusedVariables false
set_option linter.unusedSimpArgs false

theorem zi_scale (s : Bool) (m c : Nat) : zi (sn (zi s m)) (ab (zi s m) * c) = zi s (m * c) := by
  by_cases h : m = 0
  · subst h; rw [zi_zero, Nat.zero_mul, zi_zero]; show zi _ (0 * c) = 0; rw [Nat.zero_mul, zi_zero]
  · rw [zi_sn s h, zi_ab]
theorem shl_nm (x n L : Nat) (hL : L = x * 2 ^ n) (A : Option Addr) (w : World) (hx : Nat32 w A x) (hbx : ln x ≤ 1000) (hn : n ≤ 10000) :
    Calls Tryz.prog 114 #[.slice A (ln x) (ln x), .int .i64 (n : Nat)] w (RetNat w L) := by
  subst hL; exact shl_any x n A w hx (by omega) (by omega)
theorem shl_one2 (k U : Nat) (hU : U = 2 ^ k) (B : Option Addr) (w : World) (hy : Nat32 w B 1) (hk : k ≤ 10000) :
    Calls Tryz.prog 114 #[.slice B 1 1, .int .i64 (k : Nat)] w (RetNat w U) := by
  have h := shl_any 1 k B w hy (by rw [ln_one]; omega) (by omega)
  rw [ln_one, Nat.one_mul, ← hU] at h
  exact h
theorem wholeOf_nm (s : Bool) (n : Nat) (z : Int) (hz : zi s n = z) (A : Option Addr) (w : World) (h : Nat32 w A n) :
    Calls Tryz.prog 123 #[.bool s, .slice A (ln n) (ln n)] w (RetWhole w z) := by
  subst hz; exact wholeOf_any s n A w h
set_option maxHeartbeats 4000000 in
theorem complex_bad1 (X Y : Nat) (hX : X < 18446744073709551616) (hY : Y < 18446744073709551616) (hE : xE X = 2047) (w : World) :
    Calls Tryz.prog 61 #[.complex .f64 X Y] w (RetNumE w 1 Cx.zero) := by
  have C0 := Lib.hid (fun w => finite_false X hX hE w)
  clear hX hY hE
  go_enter Tryz.func61, Tryz.ntmps61
  go_wp2_with fail
  obtain ⟨W, hW⟩ : ∃ W : World, W = (w.alloc (.cells #[.bool false, .slice none 0 0, .bool false, .slice none 0 0, .slice none 0 0] 30)) := ⟨_, rfl⟩
  have r0 : W.cell? ⟨w.heap.size, 0, none⟩ = some (.bool false) := by subst hW; go_simp
  have f0 : W.frozen? ⟨w.heap.size, 0, none⟩ = false := by subst hW; go_simp
  have r1 : W.cell? ⟨w.heap.size, 1, none⟩ = some (.slice none 0 0) := by subst hW; go_simp
  have f1 : W.frozen? ⟨w.heap.size, 1, none⟩ = false := by subst hW; go_simp
  have r2 : W.cell? ⟨w.heap.size, 2, none⟩ = some (.bool false) := by subst hW; go_simp
  have f2 : W.frozen? ⟨w.heap.size, 2, none⟩ = false := by subst hW; go_simp
  have r3 : W.cell? ⟨w.heap.size, 3, none⟩ = some (.slice none 0 0) := by subst hW; go_simp
  have f3 : W.frozen? ⟨w.heap.size, 3, none⟩ = false := by subst hW; go_simp
  have r4 : W.cell? ⟨w.heap.size, 4, none⟩ = some (.slice none 0 0) := by subst hW; go_simp
  have f4 : W.frozen? ⟨w.heap.size, 4, none⟩ = false := by subst hW; go_simp
  have HW : Below w.heap.size w W := by subst hW; exact ((Below.refl w.heap.size w).alloc (Nat.le_refl _) _)
  have l0 : w.heap.size < W.heap.size := by subst hW; simp
  rw [← hW]
  clear hW
  replace HW := Lib.hid HW
  refine (C0.out _).mono ?_
  rintro e w01 ⟨rfl, hw⟩
  rw [hw]
  clear hw w01
  go_wp2_with fail
  refine bodyPost_ret (v := .tuple #[.agg #[.bool false, .slice none 0 0, .bool false, .slice none 0 0, .slice none 0 0], .int .i64 1]) (by simp [results, Tryz.results61, go_sem, r0, r1, r2, r3, r4, f0, f1, f2, f3, f4]) rfl ?_
  obtain ⟨e1, e2, e3⟩ := zero_form
  have h := retNumE_fin (k := 1) (q := Cx.zero) (A1 := none) (A2 := none) (A3 := none) HW ⟨by rw [e1]; exact fun e => absurd rfl e, by rw [e2]; exact fun e => absurd rfl e, by rw [e3]; exact fun e => absurd rfl e⟩ (by omega) r0
  rw [e1, e2, e3, sn_zero, show ab 0 = 0 from rfl, ln_zero] at h
  exact h

set_option maxHeartbeats 4000000 in
theorem complex_bad2 (X Y : Nat) (hX : X < 18446744073709551616) (hY : Y < 18446744073709551616) (hE : xE X ≠ 2047) (hF : xE Y = 2047) (w : World) :
    Calls Tryz.prog 61 #[.complex .f64 X Y] w (RetNumE w 1 Cx.zero) := by
  have C0 := Lib.hid (fun w => finite_true X hX hE w)
  have C1 := Lib.hid (fun w => finite_false Y hY hF w)
  clear hX hY hE hF
  go_enter Tryz.func61, Tryz.ntmps61
  go_wp2_with fail
  obtain ⟨W, hW⟩ : ∃ W : World, W = (w.alloc (.cells #[.bool false, .slice none 0 0, .bool false, .slice none 0 0, .slice none 0 0] 30)) := ⟨_, rfl⟩
  have r0 : W.cell? ⟨w.heap.size, 0, none⟩ = some (.bool false) := by subst hW; go_simp
  have f0 : W.frozen? ⟨w.heap.size, 0, none⟩ = false := by subst hW; go_simp
  have r1 : W.cell? ⟨w.heap.size, 1, none⟩ = some (.slice none 0 0) := by subst hW; go_simp
  have f1 : W.frozen? ⟨w.heap.size, 1, none⟩ = false := by subst hW; go_simp
  have r2 : W.cell? ⟨w.heap.size, 2, none⟩ = some (.bool false) := by subst hW; go_simp
  have f2 : W.frozen? ⟨w.heap.size, 2, none⟩ = false := by subst hW; go_simp
  have r3 : W.cell? ⟨w.heap.size, 3, none⟩ = some (.slice none 0 0) := by subst hW; go_simp
  have f3 : W.frozen? ⟨w.heap.size, 3, none⟩ = false := by subst hW; go_simp
  have r4 : W.cell? ⟨w.heap.size, 4, none⟩ = some (.slice none 0 0) := by subst hW; go_simp
  have f4 : W.frozen? ⟨w.heap.size, 4, none⟩ = false := by subst hW; go_simp
  have HW : Below w.heap.size w W := by subst hW; exact ((Below.refl w.heap.size w).alloc (Nat.le_refl _) _)
  have l0 : w.heap.size < W.heap.size := by subst hW; simp
  rw [← hW]
  clear hW
  replace HW := Lib.hid HW
  refine (C0.out _).mono ?_
  rintro e w01 ⟨rfl, hw⟩
  rw [hw]
  clear hw w01
  go_wp2_with fail
  refine (C1.out _).mono ?_
  rintro e w01 ⟨rfl, hw⟩
  rw [hw]
  clear hw w01
  go_wp2_with fail
  refine bodyPost_ret (v := .tuple #[.agg #[.bool false, .slice none 0 0, .bool false, .slice none 0 0, .slice none 0 0], .int .i64 1]) (by simp [results, Tryz.results61, go_sem, r0, r1, r2, r3, r4, f0, f1, f2, f3, f4]) rfl ?_
  obtain ⟨e1, e2, e3⟩ := zero_form
  have h := retNumE_fin (k := 1) (q := Cx.zero) (A1 := none) (A2 := none) (A3 := none) HW ⟨by rw [e1]; exact fun e => absurd rfl e, by rw [e2]; exact fun e => absurd rfl e, by rw [e3]; exact fun e => absurd rfl e⟩ (by omega) r0
  rw [e1, e2, e3, sn_zero, show ab 0 = 0 from rfl, ln_zero] at h
  exact h

set_option maxRecDepth 100000 in
set_option maxHeartbeats 4000000 in
theorem complex_fin (X Y : Nat) (hX : X < 18446744073709551616) (hY : Y < 18446744073709551616) (hE : xE X ≠ 2047) (hF : xE Y ≠ 2047) (w : World) :
    Calls Tryz.prog 61 #[.complex .f64 X Y] w (RetNumE w 0 (cx X Y)) := by
  have C1 := Lib.hid (fun w => finite_true X hX hE w)
  have C2 := Lib.hid (fun w => finite_true Y hY hF w)
  have S1 := Lib.hid (fun w => split_any X hX hE w)
  have S2 := Lib.hid (fun w => split_any Y hY hF w)
  have p1 := xP_lo X
  have p2 := xP_fin hE
  have p3 := xP_lo Y
  have p4 := xP_fin hF
  have m1 := xM_lt X
  have m2 := xM_lt Y
  obtain ⟨K, hK⟩ : ∃ K : Nat, max (max 0 (-(xP X))) (-(xP Y)) = (K : Int) := ⟨(max (max 0 (-(xP X))) (-(xP Y))).toNat, by omega⟩
  have hK2 : (if (if xP X < 0 then -xP X else 0) < -xP Y then -xP Y else if xP X < 0 then -xP X else 0) = (K : Int) := by rw [← hK]; split <;> split <;> omega
  replace hK2 := Lib.hid hK2
  have k3 : K ≤ 1074 := by omega
  have HK3 := Lib.hid k3
  obtain ⟨n1, hn1⟩ : ∃ n : Nat, xP X + (K : Int) = (n : Int) := ⟨(xP X + K).toNat, by omega⟩
  obtain ⟨n2, hn2⟩ : ∃ n : Nat, xP Y + (K : Int) = (n : Int) := ⟨(xP Y + K).toNat, by omega⟩
  have k1 : n1 ≤ 2045 := by omega
  have k2 : n2 ≤ 2045 := by omega
  have HQ := Lib.hid (x_fr X Y K (by omega) (by omega))
  rw [hn1, hn2, Int.toNat_natCast, Int.toNat_natCast, ← zi_scale (xS X) (xM X), ← zi_scale (xS Y) (xM Y)] at HQ
  have b1 : Hid (ln (ab (zi (xS X) (xM X))) ≤ 2) := Lib.hid (by rw [zi_ab]; exact ln_le (by rw [show (4294967296 : Nat) ^ 2 = 18446744073709551616 by decide]; omega))
  have b2 : Hid (ln (ab (zi (xS Y) (xM Y))) ≤ 2) := Lib.hid (by rw [zi_ab]; exact ln_le (by rw [show (4294967296 : Nat) ^ 2 = 18446744073709551616 by decide]; omega))
  obtain ⟨a, ha⟩ : ∃ a, a = zi (xS X) (xM X) := ⟨_, rfl⟩
  obtain ⟨b, hb⟩ : ∃ b, b = zi (xS Y) (xM Y) := ⟨_, rfl⟩
  obtain ⟨P, hP⟩ : ∃ P, P = xP X := ⟨_, rfl⟩
  obtain ⟨Q, hQ⟩ : ∃ P, P = xP Y := ⟨_, rfl⟩
  rw [← ha, ← hP] at S1
  rw [← hb, ← hQ] at S2
  rw [← ha, ← hb] at HQ
  rw [← ha] at b1
  rw [← hb] at b2
  rw [← hP, ← hQ] at hK hK2
  rw [← hP] at p1 p2 hn1
  rw [← hQ] at p3 p4 hn2
  obtain ⟨q, hq⟩ : ∃ q, q = cx X Y := ⟨_, rfl⟩
  rw [← hq] at HQ ⊢
  obtain ⟨L1, hL1⟩ : ∃ L, L = ab a * 2 ^ n1 := ⟨_, rfl⟩
  obtain ⟨L2, hL2⟩ : ∃ L, L = ab b * 2 ^ n2 := ⟨_, rfl⟩
  obtain ⟨U, hU⟩ : ∃ U, U = 2 ^ K := ⟨_, rfl⟩
  rw [← hL1, ← hL2, ← hU] at HQ
  obtain ⟨Z1, hZ1⟩ : ∃ Z, Z = zi (sn a) L1 := ⟨_, rfl⟩
  obtain ⟨Z2, hZ2⟩ : ∃ Z, Z = zi (sn b) L2 := ⟨_, rfl⟩
  rw [← hZ1, ← hZ2] at HQ
  rw [← HQ.out]
  have B1 : Hid (ln (ab Z1) ≤ 1000) := Lib.hid (by rw [hZ1, zi_ab, hL1]; have := nat_mul_ln b1.out (ln_pow2 n1); omega)
  have B2 : Hid (ln (ab Z2) ≤ 1000) := Lib.hid (by rw [hZ2, zi_ab, hL2]; have := nat_mul_ln b2.out (ln_pow2 n2); omega)
  have B3 : Hid (ln U ≤ 1000) := Lib.hid (by rw [hU]; have := ln_pow2 K; omega)
  have U0 : Hid (U ≠ 0) := Lib.hid (by rw [hU]; have : 0 < 2 ^ K := Nat.pow_pos (by omega); exact Nat.ne_of_gt this)
  have EL1 := Lib.hid hL1
  have EL2 := Lib.hid hL2
  have EU := Lib.hid hU
  have EZ1 := Lib.hid hZ1.symm
  have EZ2 := Lib.hid hZ2.symm
  clear hX hY hE hF m1 m2 ha hb hP hQ hq HQ hL1 hL2 hU hZ1 hZ2
  go_enter Tryz.func61, Tryz.ntmps61
  go_wp2_with fail
  obtain ⟨W, hW⟩ : ∃ W : World, W = (w.alloc (.cells #[.bool false, .slice none 0 0, .bool false, .slice none 0 0, .slice none 0 0] 30)) := ⟨_, rfl⟩
  have r0 : W.cell? ⟨w.heap.size, 0, none⟩ = some (.bool false) := by subst hW; go_simp
  have f0 : W.frozen? ⟨w.heap.size, 0, none⟩ = false := by subst hW; go_simp
  have r1 : W.cell? ⟨w.heap.size, 1, none⟩ = some (.slice none 0 0) := by subst hW; go_simp
  have f1 : W.frozen? ⟨w.heap.size, 1, none⟩ = false := by subst hW; go_simp
  have r2 : W.cell? ⟨w.heap.size, 2, none⟩ = some (.bool false) := by subst hW; go_simp
  have f2 : W.frozen? ⟨w.heap.size, 2, none⟩ = false := by subst hW; go_simp
  have r3 : W.cell? ⟨w.heap.size, 3, none⟩ = some (.slice none 0 0) := by subst hW; go_simp
  have f3 : W.frozen? ⟨w.heap.size, 3, none⟩ = false := by subst hW; go_simp
  have r4 : W.cell? ⟨w.heap.size, 4, none⟩ = some (.slice none 0 0) := by subst hW; go_simp
  have f4 : W.frozen? ⟨w.heap.size, 4, none⟩ = false := by subst hW; go_simp
  have HW : Below w.heap.size w W := by subst hW; exact ((Below.refl w.heap.size w).alloc (Nat.le_refl _) _)
  have l0 : w.heap.size < W.heap.size := by subst hW; simp
  rw [← hW]
  clear hW
  replace HW := Lib.hid HW
  refine (C1.out _).mono ?_
  rintro e w01 ⟨rfl, hw⟩
  rw [hw]
  clear hw w01
  go_wp2_with fail
  refine (C2.out _).mono ?_
  rintro e w01 ⟨rfl, hw⟩
  rw [hw]
  clear hw w01
  go_wp2_with fail
  refine (S1.out _).mono ?_
  rintro e w1 ⟨A1, rfl, h1, hb1⟩
  replace r0 := keepc hb1 r0 l0
  replace f0 := keepf hb1 f0 l0
  replace r1 := keepc hb1 r1 l0
  replace f1 := keepf hb1 f1 l0
  replace r2 := keepc hb1 r2 l0
  replace f2 := keepf hb1 f2 l0
  replace r3 := keepc hb1 r3 l0
  replace f3 := keepf hb1 f3 l0
  replace r4 := keepc hb1 r4 l0
  replace f4 := keepf hb1 f4 l0
  replace l0 := Nat.lt_of_lt_of_le l0 hb1.size
  replace HW := Lib.hid (hstep HW hb1)
  clear hb1
  go_wp2_with fail
  obtain ⟨w2, hX⟩ : ∃ X : World, X = w1.alloc (.cells #[.bool (sn a), .slice A1 (ln (ab a)) (ln (ab a))] 28) := ⟨_, rfl⟩
  rw [← hX]
  have hb2 : Below w1.heap.size w1 w2 := by rw [hX]; exact (Below.refl _ _).alloc (Nat.le_refl _) _
  have t0_0 : w2.cell? ⟨w1.heap.size, 0, none⟩ = some (.bool (sn a)) := by subst hX; go_simp
  have t0_1 : w2.cell? ⟨w1.heap.size, 1, none⟩ = some (.slice A1 (ln (ab a)) (ln (ab a))) := by subst hX; go_simp
  have l100 : w1.heap.size < w2.heap.size := by rw [hX]; simp
  have n100 : w1.heap.size ≠ w.heap.size := by omega
  replace r0 := keepc hb2 r0 l0
  replace f0 := keepf hb2 f0 l0
  replace r1 := keepc hb2 r1 l0
  replace f1 := keepf hb2 f1 l0
  replace r2 := keepc hb2 r2 l0
  replace f2 := keepf hb2 f2 l0
  replace r3 := keepc hb2 r3 l0
  replace f3 := keepf hb2 f3 l0
  replace r4 := keepc hb2 r4 l0
  replace f4 := keepf hb2 f4 l0
  replace l0 := Nat.lt_of_lt_of_le l0 hb2.size
  replace h1 := h1.to hb2
  replace HW := Lib.hid (hstep HW hb2)
  clear hb2
  clear hX
  obtain ⟨g0, hg0⟩ : ∃ g, g = w1.heap.size := ⟨_, rfl⟩
  rw [← hg0] at t0_0 t0_1 l100 n100
  rw [← hg0]
  clear hg0
  refine (S2.out _).mono ?_
  rintro e w3 ⟨A2, rfl, h2, hb3⟩
  replace t0_0 := keepc hb3 t0_0 l100
  replace t0_1 := keepc hb3 t0_1 l100
  replace r0 := keepc hb3 r0 l0
  replace f0 := keepf hb3 f0 l0
  replace r1 := keepc hb3 r1 l0
  replace f1 := keepf hb3 f1 l0
  replace r2 := keepc hb3 r2 l0
  replace f2 := keepf hb3 f2 l0
  replace r3 := keepc hb3 r3 l0
  replace f3 := keepf hb3 f3 l0
  replace r4 := keepc hb3 r4 l0
  replace f4 := keepf hb3 f4 l0
  replace l0 := Nat.lt_of_lt_of_le l0 hb3.size
  replace l100 := Nat.lt_of_lt_of_le l100 hb3.size
  replace h1 := h1.to hb3
  replace HW := Lib.hid (hstep HW hb3)
  clear hb3
  go_upto_region 6 with fail
  obtain ⟨w4, hX⟩ : ∃ X : World, X = w3.alloc (.cells #[.bool (sn b), .slice A2 (ln (ab b)) (ln (ab b))] 28) := ⟨_, rfl⟩
  rw [← hX]
  have hb4 : Below w3.heap.size w3 w4 := by rw [hX]; exact (Below.refl _ _).alloc (Nat.le_refl _) _
  have t1_0 : w4.cell? ⟨w3.heap.size, 0, none⟩ = some (.bool (sn b)) := by subst hX; go_simp
  have t1_1 : w4.cell? ⟨w3.heap.size, 1, none⟩ = some (.slice A2 (ln (ab b)) (ln (ab b))) := by subst hX; go_simp
  have l101 : w3.heap.size < w4.heap.size := by rw [hX]; simp
  have n101 : w3.heap.size ≠ w.heap.size := by omega
  replace t0_0 := keepc hb4 t0_0 l100
  replace t0_1 := keepc hb4 t0_1 l100
  replace r0 := keepc hb4 r0 l0
  replace f0 := keepf hb4 f0 l0
  replace r1 := keepc hb4 r1 l0
  replace f1 := keepf hb4 f1 l0
  replace r2 := keepc hb4 r2 l0
  replace f2 := keepf hb4 f2 l0
  replace r3 := keepc hb4 r3 l0
  replace f3 := keepf hb4 f3 l0
  replace r4 := keepc hb4 r4 l0
  replace f4 := keepf hb4 f4 l0
  replace l0 := Nat.lt_of_lt_of_le l0 hb4.size
  replace l100 := Nat.lt_of_lt_of_le l100 hb4.size
  replace h1 := h1.to hb4
  replace h2 := h2.to hb4
  replace HW := Lib.hid (hstep HW hb4)
  clear hb4
  clear hX
  obtain ⟨g1, hg1⟩ : ∃ g, g = w3.heap.size := ⟨_, rfl⟩
  rw [← hg1] at t1_0 t1_1 l101 n101
  rw [← hg1]
  clear hg1
  rw [hK2.out]
  have u1 : IntKind.i64.wrap (n1 : Int) = (n1 : Int) := by rw [IntKind.wrap_i64]; omega
  have u2 : IntKind.i64.wrap (n2 : Int) = (n2 : Int) := by rw [IntKind.wrap_i64]; omega
  clear C1 C2 S1 S2 p1 p2 p3 p4 hK hK2 k3
  go_region_held3 (fun w' => w'.cell? ⟨g0, 0, none⟩ = some (.bool (sn a)) ∧ w'.cell? ⟨g0, 1, none⟩ = some (.slice A1 (ln (ab a)) (ln (ab a))) ∧ w'.cell? ⟨g1, 0, none⟩ = some (.bool (sn b)) ∧ w'.cell? ⟨g1, 1, none⟩ = some (.slice A2 (ln (ab b)) (ln (ab b)))) (first | with_reducible exact ⟨t0_0, t0_1, t1_0, t1_1⟩ | with_reducible exact ⟨(keepd t0_0), (keepd t0_1), (keepd t1_0), (keepd t1_1)⟩ | with_reducible exact ⟨(keepa t0_0 l100), (keepa t0_1 l100), (keepa t1_0 l101), (keepa t1_1 l101)⟩ | with_reducible exact ⟨(keepd (keepa t0_0 l100)), (keepd (keepa t0_1 l100)), (keepd (keepa t1_0 l101)), (keepd (keepa t1_1 l101))⟩ | with_reducible exact ⟨(keepa (keepd t0_0) l100), (keepa (keepd t0_1) l100), (keepa (keepd t1_0) l101), (keepa (keepd t1_1) l101)⟩ | with_reducible exact ⟨(keeps (keeps (keeps (keeps (keeps t0_0 n100) n100) n100) n100) n100), (keeps (keeps (keeps (keeps (keeps t0_1 n100) n100) n100) n100) n100), (keeps (keeps (keeps (keeps (keeps t1_0 n101) n101) n101) n101) n101), (keeps (keeps (keeps (keeps (keeps t1_1 n101) n101) n101) n101) n101)⟩) (first
    | (have _ := mk4; go_at_call 96; refine (over_any Z1 Z2 U V1 V2 T3 _ (by exact v1) (by exact v2) (by exact i3) (Nat.le_trans B1.out (by omega)) (Nat.le_trans B2.out (by omega)) (Nat.le_trans B3.out (by omega)) U0.out).mono ?_; rintro e w10 ⟨Y1, Y2, Y3, rfl, hz, ha⟩; have hb10 : Below w9.heap.size w9 w10 := (by first | with_reducible exact ha | with_reducible exact undrew ha | with_reducible exact unalloc ha | with_reducible exact undrewalloc ha | with_reducible exact unalloc (undrew ha) | with_reducible exact undrew (unalloc ha)); (try replace q1 := q1.to hb10); (try first | (with_reducible have q1 := newnat ha) | (with_reducible have q1 := newnat (undrew ha)) | (with_reducible have q1 := newnat (unalloc ha))); replace t0_0 := keepc hb10 t0_0 l100; replace t0_1 := keepc hb10 t0_1 l100; replace t1_0 := keepc hb10 t1_0 l101; replace t1_1 := keepc hb10 t1_1 l101; replace r0 := keepc hb10 r0 l0; replace f0 := keepf hb10 f0 l0; replace r1 := keepc hb10 r1 l0; replace f1 := keepf hb10 f1 l0; replace r2 := keepc hb10 r2 l0; replace f2 := keepf hb10 f2 l0; replace r3 := keepc hb10 r3 l0; replace f3 := keepf hb10 f3 l0; replace r4 := keepc hb10 r4 l0; replace f4 := keepf hb10 f4 l0; replace l0 := Nat.lt_of_lt_of_le l0 hb10.size; replace l100 := Nat.lt_of_lt_of_le l100 hb10.size; replace l101 := Nat.lt_of_lt_of_le l101 hb10.size; replace h1 := h1.to hb10; replace h2 := h2.to hb10; replace i1 := i1.to hb10; replace v1 := v1.to hb10; replace i2 := i2.to hb10; replace v2 := v2.to hb10; replace i3 := i3.to hb10; replace HW := Lib.hid (hstep HW hb10); clear hb10; clear ha; have mk5 : True := trivial; clear mk4)
    | (have _ := mk3; go_at_call 114; refine (shl_one2 K U EU.out _ _ (by first | with_reducible exact q1 | with_reducible exact nat1_new _ _ | exact q1 | exact nat1_new _ _) (Nat.le_trans HK3.out (by omega))).mono ?_; rintro e w9 ⟨T3, rfl, i3, ha⟩; have hb9 : Below w8.heap.size w8 w9 := (by first | with_reducible exact ha | with_reducible exact undrew ha | with_reducible exact unalloc ha | with_reducible exact undrewalloc ha | with_reducible exact unalloc (undrew ha) | with_reducible exact undrew (unalloc ha)); (try replace q1 := q1.to hb9); (try first | (with_reducible have q1 := newnat ha) | (with_reducible have q1 := newnat (undrew ha)) | (with_reducible have q1 := newnat (unalloc ha))); replace t0_0 := keepc hb9 t0_0 l100; replace t0_1 := keepc hb9 t0_1 l100; replace t1_0 := keepc hb9 t1_0 l101; replace t1_1 := keepc hb9 t1_1 l101; replace r0 := keepc hb9 r0 l0; replace f0 := keepf hb9 f0 l0; replace r1 := keepc hb9 r1 l0; replace f1 := keepf hb9 f1 l0; replace r2 := keepc hb9 r2 l0; replace f2 := keepf hb9 f2 l0; replace r3 := keepc hb9 r3 l0; replace f3 := keepf hb9 f3 l0; replace r4 := keepc hb9 r4 l0; replace f4 := keepf hb9 f4 l0; replace l0 := Nat.lt_of_lt_of_le l0 hb9.size; replace l100 := Nat.lt_of_lt_of_le l100 hb9.size; replace l101 := Nat.lt_of_lt_of_le l101 hb9.size; replace h1 := h1.to hb9; replace h2 := h2.to hb9; replace i1 := i1.to hb9; replace v1 := v1.to hb9; replace i2 := i2.to hb9; replace v2 := v2.to hb9; replace HW := Lib.hid (hstep HW hb9); clear hb9; clear ha; have mk4 : True := trivial; clear mk3)
    | (have _ := mk2; go_at_call 123; refine (wholeOf_nm (sn b) L2 Z2 EZ2.out T2 _ (by first | with_reducible exact i2 | with_reducible exact i2.alloc _ | exact i2 | exact i2.alloc _)).mono ?_; rintro e w8 ⟨V2, rfl, v2, ha⟩; have hb8 : Below w7.heap.size w7 w8 := (by first | with_reducible exact ha | with_reducible exact undrew ha | with_reducible exact unalloc ha | with_reducible exact undrewalloc ha | with_reducible exact unalloc (undrew ha) | with_reducible exact undrew (unalloc ha)); (try replace q1 := q1.to hb8); (try first | (with_reducible have q1 := newnat ha) | (with_reducible have q1 := newnat (undrew ha)) | (with_reducible have q1 := newnat (unalloc ha))); replace t0_0 := keepc hb8 t0_0 l100; replace t0_1 := keepc hb8 t0_1 l100; replace t1_0 := keepc hb8 t1_0 l101; replace t1_1 := keepc hb8 t1_1 l101; replace r0 := keepc hb8 r0 l0; replace f0 := keepf hb8 f0 l0; replace r1 := keepc hb8 r1 l0; replace f1 := keepf hb8 f1 l0; replace r2 := keepc hb8 r2 l0; replace f2 := keepf hb8 f2 l0; replace r3 := keepc hb8 r3 l0; replace f3 := keepf hb8 f3 l0; replace r4 := keepc hb8 r4 l0; replace f4 := keepf hb8 f4 l0; replace l0 := Nat.lt_of_lt_of_le l0 hb8.size; replace l100 := Nat.lt_of_lt_of_le l100 hb8.size; replace l101 := Nat.lt_of_lt_of_le l101 hb8.size; replace h1 := h1.to hb8; replace h2 := h2.to hb8; replace i1 := i1.to hb8; replace v1 := v1.to hb8; replace i2 := i2.to hb8; replace HW := Lib.hid (hstep HW hb8); clear hb8; clear ha; have mk3 : True := trivial; clear mk2)
    | (have _ := mk1; go_at_call 114; refine (shl_nm (ab b) n2 L2 EL2.out A2 _ (by first | with_reducible exact h2 | with_reducible exact h2.alloc _ | exact h2 | exact h2.alloc _) (Nat.le_trans b2.out (by omega)) (by omega)).mono ?_; rintro e w7 ⟨T2, rfl, i2, ha⟩; have hb7 : Below w6.heap.size w6 w7 := (by first | with_reducible exact ha | with_reducible exact undrew ha | with_reducible exact unalloc ha | with_reducible exact undrewalloc ha | with_reducible exact unalloc (undrew ha) | with_reducible exact undrew (unalloc ha)); (try replace q1 := q1.to hb7); (try first | (with_reducible have q1 := newnat ha) | (with_reducible have q1 := newnat (undrew ha)) | (with_reducible have q1 := newnat (unalloc ha))); replace t0_0 := keepc hb7 t0_0 l100; replace t0_1 := keepc hb7 t0_1 l100; replace t1_0 := keepc hb7 t1_0 l101; replace t1_1 := keepc hb7 t1_1 l101; replace r0 := keepc hb7 r0 l0; replace f0 := keepf hb7 f0 l0; replace r1 := keepc hb7 r1 l0; replace f1 := keepf hb7 f1 l0; replace r2 := keepc hb7 r2 l0; replace f2 := keepf hb7 f2 l0; replace r3 := keepc hb7 r3 l0; replace f3 := keepf hb7 f3 l0; replace r4 := keepc hb7 r4 l0; replace f4 := keepf hb7 f4 l0; replace l0 := Nat.lt_of_lt_of_le l0 hb7.size; replace l100 := Nat.lt_of_lt_of_le l100 hb7.size; replace l101 := Nat.lt_of_lt_of_le l101 hb7.size; replace h1 := h1.to hb7; replace h2 := h2.to hb7; replace i1 := i1.to hb7; replace v1 := v1.to hb7; replace HW := Lib.hid (hstep HW hb7); clear hb7; clear ha; have mk2 : True := trivial; clear mk1)
    | (have _ := mk0; go_at_call 123; refine (wholeOf_nm (sn a) L1 Z1 EZ1.out T1 _ (by first | with_reducible exact i1 | with_reducible exact i1.alloc _ | exact i1 | exact i1.alloc _)).mono ?_; rintro e w6 ⟨V1, rfl, v1, ha⟩; have hb6 : Below w5.heap.size w5 w6 := (by first | with_reducible exact ha | with_reducible exact undrew ha | with_reducible exact unalloc ha | with_reducible exact undrewalloc ha | with_reducible exact unalloc (undrew ha) | with_reducible exact undrew (unalloc ha)); (try replace q1 := q1.to hb6); (try first | (with_reducible have q1 := newnat ha) | (with_reducible have q1 := newnat (undrew ha)) | (with_reducible have q1 := newnat (unalloc ha))); replace t0_0 := keepc hb6 t0_0 l100; replace t0_1 := keepc hb6 t0_1 l100; replace t1_0 := keepc hb6 t1_0 l101; replace t1_1 := keepc hb6 t1_1 l101; replace r0 := keepc hb6 r0 l0; replace f0 := keepf hb6 f0 l0; replace r1 := keepc hb6 r1 l0; replace f1 := keepf hb6 f1 l0; replace r2 := keepc hb6 r2 l0; replace f2 := keepf hb6 f2 l0; replace r3 := keepc hb6 r3 l0; replace f3 := keepf hb6 f3 l0; replace r4 := keepc hb6 r4 l0; replace f4 := keepf hb6 f4 l0; replace l0 := Nat.lt_of_lt_of_le l0 hb6.size; replace l100 := Nat.lt_of_lt_of_le l100 hb6.size; replace l101 := Nat.lt_of_lt_of_le l101 hb6.size; replace h1 := h1.to hb6; replace h2 := h2.to hb6; replace i1 := i1.to hb6; replace HW := Lib.hid (hstep HW hb6); clear hb6; clear ha; have mk1 : True := trivial; clear mk0)
    | (go_at_call 114; refine (shl_nm (ab a) n1 L1 EL1.out A1 _ (by first | with_reducible exact h1 | with_reducible exact h1.alloc _ | exact h1 | exact h1.alloc _) (Nat.le_trans b1.out (by omega)) (by omega)).mono ?_; rintro e w5 ⟨T1, rfl, i1, ha⟩; have hb5 : Below w4.heap.size w4 w5 := (by first | with_reducible exact ha | with_reducible exact undrew ha | with_reducible exact unalloc ha | with_reducible exact undrewalloc ha | with_reducible exact unalloc (undrew ha) | with_reducible exact undrew (unalloc ha)); (try replace q1 := q1.to hb5); (try first | (with_reducible have q1 := newnat ha) | (with_reducible have q1 := newnat (undrew ha)) | (with_reducible have q1 := newnat (unalloc ha))); replace t0_0 := keepc hb5 t0_0 l100; replace t0_1 := keepc hb5 t0_1 l100; replace t1_0 := keepc hb5 t1_0 l101; replace t1_1 := keepc hb5 t1_1 l101; replace r0 := keepc hb5 r0 l0; replace f0 := keepf hb5 f0 l0; replace r1 := keepc hb5 r1 l0; replace f1 := keepf hb5 f1 l0; replace r2 := keepc hb5 r2 l0; replace f2 := keepf hb5 f2 l0; replace r3 := keepc hb5 r3 l0; replace f3 := keepf hb5 f3 l0; replace r4 := keepc hb5 r4 l0; replace f4 := keepf hb5 f4 l0; replace l0 := Nat.lt_of_lt_of_le l0 hb5.size; replace l100 := Nat.lt_of_lt_of_le l100 hb5.size; replace l101 := Nat.lt_of_lt_of_le l101 hb5.size; replace h1 := h1.to hb5; replace h2 := h2.to hb5; replace HW := Lib.hid (hstep HW hb5); clear hb5; clear ha; have mk0 : True := trivial))
  all_goals go_wp2_with fail
  all_goals exact bodyPost_ret (v := .tuple #[.agg #[.bool (sn (na (fr Z1 Z2 U))), .slice Y1 (ln (ab (na (fr Z1 Z2 U)))) (ln (ab (na (fr Z1 Z2 U)))), .bool (sn (nb (fr Z1 Z2 U))), .slice Y2 (ln (ab (nb (fr Z1 Z2 U)))) (ln (ab (nb (fr Z1 Z2 U)))), .slice Y3 (ln (un (fr Z1 Z2 U))) (ln (un (fr Z1 Z2 U)))], .int .i64 0]) (by simp [results, Tryz.results61, go_sem, r0, r1, r2, r3, r4, f0, f1, f2, f3, f4]) rfl (retNumE_fin HW hz (by omega) r0)

theorem complex_bad (X Y : Nat) (hX : X < 18446744073709551616) (hY : Y < 18446744073709551616) (hE : xE X = 2047 ∨ xE Y = 2047) (w : World) : Calls Tryz.prog 61 #[.complex .f64 X Y] w (RetNumE w 1 Cx.zero) := by
  by_cases h : xE X = 2047
  · exact complex_bad1 X Y hX hY h w
  · exact complex_bad2 X Y hX hY h (hE.resolve_left h) w
end Go.Proofs.YtgpmlhpgdalheaaGreat

namespace Go.Proofs.YtgpmlhpgdalheaaGreat
open Go.RowKit Pl Fl
set_option linter.unusedVariables false
set_option linter.unusedSimpArgs false

set_option maxHeartbeats 1000000 in
theorem rfinite_any (X : Nat) (hX : X < 18446744073709551616) (b : Bool) (hb : (!decide (xE X = 2047)) = b) (w : World) : Calls Tryz.prog 124 #[.float .f64 X] w fun r w' => r = .returned (.bool b) ∧ w' = w := by
  have g2 := f64bits
  have e2 := mexp11 hX
  have e3 : ((xE X : Int) != 2047) = b := by
    rw [← hb, bne, Bool.eq_iff_iff]
    simp only [Bool.not_eq_true', beq_eq_false_iff_ne, decide_eq_false_iff_not]
    omega
  generalize xE X = E at *
  clear hb
  go_enter Tryz.func124, Tryz.ntmps124
  go_wp2_with fail
  go_ret
  exact ⟨rfl, rfl⟩
theorem rshl_nm (x n L : Nat) (hL : L = x * 2 ^ n) (A : Option Addr) (c : Nat) (w : World) (hx : Nat32 w A x) (hb : ln x ≤ 1000) (hn : n ≤ 10000) :
    Calls Tryz.prog 118 #[.slice A (ln x) c, .int .i64 (n : Nat)] w (RetNatC w L) := by
  subst hL; exact rshl_any x n A c w hx (by omega) (by omega)
theorem rshl_one2 (U n : Nat) (hU : U = 2 ^ n) (A : Option Addr) (w : World) (hx : Nat32 w A 1) (hn : n ≤ 10000) :
    Calls Tryz.prog 118 #[.slice A 1 1, .int .i64 (n : Nat)] w (RetNatC w U) := by
  have h := rshl_any 1 n A 1 w hx (by rw [ln_one]; omega) (by omega)
  rwa [ln_one, Nat.one_mul, ← hU] at h
theorem zi_scale' (s : Bool) (m c : Nat) : zi (sn (zi s m)) (ab (zi s m) * c) = zi s (m * c) := by
  by_cases h : m = 0
  · subst h; rw [zi_zero, Nat.zero_mul, zi_zero]; show zi _ (0 * c) = 0; rw [Nat.zero_mul, zi_zero]
  · rw [zi_sn s h, zi_ab]
theorem lt5 {w : World} {p1 p2 p3 p4 p5 : Addr} {v1 v2 v3 v4 v5 : Value} {b : Nat} (h : b < w.heap.size) : b < (((((w.setCell p1 v1).setCell p2 v2).setCell p3 v3).setCell p4 v4).setCell p5 v5).heap.size := by
  simpa [World.setCell] using h
/-- What is made behind five stores is as if made ahead of them. -/
theorem past5 {w : World} {R : Nat} {v0 v1 v2 v3 v4 : Value} {o : Obj} (h : R < w.heap.size) : (((((w.setCell ⟨R, 0, none⟩ v0).setCell ⟨R, 1, none⟩ v1).setCell ⟨R, 2, none⟩ v2).setCell ⟨R, 3, none⟩ v3).setCell ⟨R, 4, none⟩ v4).alloc o = (((((w.alloc o).setCell ⟨R, 0, none⟩ v0).setCell ⟨R, 1, none⟩ v1).setCell ⟨R, 2, none⟩ v2).setCell ⟨R, 3, none⟩ v3).setCell ⟨R, 4, none⟩ v4 := by
  rw [World.setCell_alloc_past o R 0 v0 h, World.setCell_alloc_past o R 1 v1 (by simpa [World.setCell] using h), World.setCell_alloc_past o R 2 v2 (by simpa [World.setCell] using h), World.setCell_alloc_past o R 3 v3 (by simpa [World.setCell] using h), World.setCell_alloc_past o R 4 v4 (by simpa [World.setCell] using h)]
theorem x_big {X : Nat} (h : 1075 ≤ xE X) : Cx.ofInt (zi (xS X) (xM X * 2 ^ (xE X - 1075))) = ⟨xV X, 0⟩ := by
  have hP : xP X = (xE X : Int) - 1075 := by unfold xP; rw [if_neg (by omega)]
  have e1 := x_scale X (k := 0) (by omega)
  rw [hP, show ((xE X : Int) - 1075 + (0 : Nat)).toNat = xE X - 1075 by omega, Nat.pow_zero] at e1
  have e2 : ((1 : Nat) : Rat) = 1 := rfl
  rw [e2, Rat.mul_one] at e1
  unfold Cx.ofInt; rw [e1]
theorem x_small {X k : Nat} (h : xP X + k = 0) : fr (zi (xS X) (xM X)) 0 (2 ^ k) = ⟨xV X, 0⟩ := by
  have e1 := x_scale X (k := k) (by omega)
  rw [h, Int.toNat_zero, Nat.pow_zero, Nat.mul_one] at e1
  refine fr_eq (Nat.pow_pos (by omega)) e1 ?_
  rw [Rat.zero_mul]; rfl
set_option maxRecDepth 100000 in
set_option maxHeartbeats 4000000 in
theorem rdyadic_low (X : Nat) (hX : X < 18446744073709551616) (hE : xE X = 0) (w : World) :
    Calls Tryz.prog 125 #[.float .f64 X] w (RetNumC w ⟨xV X, 0⟩) := by
  have g2 := f64bits
  have e1 := mant52 hX
  have e2 := mexp11 hX
  have e5 := sgn63 hX
  have l1 := xE_lt X
  obtain ⟨M, hM⟩ : ∃ M, M = xM X := ⟨_, rfl⟩
  have HM : Hid (M < 18446744073709551616) := Lib.hid (by have := xM_lt X; omega)
  have e3 : xF X = M := by rw [hM]; unfold xM; rw [if_pos hE]
  rw [hE] at e2
  rw [e3] at e1
  have HV := Lib.hid (x_small (X := X) (k := 1074) (by unfold xP; rw [if_pos hE]; omega))
  obtain ⟨n, hn⟩ : ∃ n : Nat, (1074 : Int) = (n : Int) := ⟨1074, rfl⟩
  have HN : Hid (n = 1074) := Lib.hid (by omega)
  rw [show (1074 : Nat) = n by omega] at HV
  clear hE
  rw [← hM] at HV
  obtain ⟨S, hS⟩ : ∃ S, S = xS X := ⟨_, rfl⟩
  rw [← hS] at e5 HV
  rw [← HV.out]
  clear hM hS
  have ba : Hid (ln (ab (zi S M)) ≤ 2) := Lib.hid (by rw [zi_ab]; exact ln_le (by rw [show (4294967296 : Nat) ^ 2 = 18446744073709551616 by decide]; exact HM.out))
  obtain ⟨a, ha⟩ : ∃ a, a = zi S M := ⟨_, rfl⟩
  rw [← ha] at ba ⊢
  have HA := Lib.hid ha.symm
  obtain ⟨U, hU⟩ : ∃ U, U = 2 ^ n := ⟨_, rfl⟩
  rw [← hU]
  have EU := Lib.hid hU
  have BU : Hid (ln U ≤ 1000) := Lib.hid (by rw [hU]; have := ln_pow2 n; have := HN.out; omega)
  have U0 : Hid (U ≠ 0) := Lib.hid (by rw [hU]; have : 0 < 2 ^ n := Nat.pow_pos (by omega); exact Nat.ne_of_gt this)
  clear hU ha HV
  go_enter Tryz.func125, Tryz.ntmps125
  go_wp2_with fail
  obtain ⟨W, hW⟩ : ∃ W : World, W = (w.alloc (.cells #[.bool false, .slice none 0 0, .bool false, .slice none 0 0, .slice none 0 0] 34)) := ⟨_, rfl⟩
  have r0 : W.cell? ⟨w.heap.size, 0, none⟩ = some (.bool false) := by subst hW; go_simp
  have f0 : W.frozen? ⟨w.heap.size, 0, none⟩ = false := by subst hW; go_simp
  have r1 : W.cell? ⟨w.heap.size, 1, none⟩ = some (.slice none 0 0) := by subst hW; go_simp
  have f1 : W.frozen? ⟨w.heap.size, 1, none⟩ = false := by subst hW; go_simp
  have r2 : W.cell? ⟨w.heap.size, 2, none⟩ = some (.bool false) := by subst hW; go_simp
  have f2 : W.frozen? ⟨w.heap.size, 2, none⟩ = false := by subst hW; go_simp
  have r3 : W.cell? ⟨w.heap.size, 3, none⟩ = some (.slice none 0 0) := by subst hW; go_simp
  have f3 : W.frozen? ⟨w.heap.size, 3, none⟩ = false := by subst hW; go_simp
  have r4 : W.cell? ⟨w.heap.size, 4, none⟩ = some (.slice none 0 0) := by subst hW; go_simp
  have f4 : W.frozen? ⟨w.heap.size, 4, none⟩ = false := by subst hW; go_simp
  have HW : Below w.heap.size w W := by subst hW; exact ((Below.refl w.heap.size w).alloc (Nat.le_refl _) _)
  have l0 : w.heap.size < W.heap.size := by subst hW; simp
  rw [← hW]
  clear hW
  replace HW := Lib.hid HW
  refine (rnatOf_any M HM.out _).mono ?_
  rintro e w1 ⟨A1, cA1, rfl, h1, hb1⟩
  replace r0 := keepc hb1 r0 l0
  replace f0 := keepf hb1 f0 l0
  replace r1 := keepc hb1 r1 l0
  replace f1 := keepf hb1 f1 l0
  replace r2 := keepc hb1 r2 l0
  replace f2 := keepf hb1 f2 l0
  replace r3 := keepc hb1 r3 l0
  replace f3 := keepf hb1 f3 l0
  replace r4 := keepc hb1 r4 l0
  replace f4 := keepf hb1 f4 l0
  replace l0 := Nat.lt_of_lt_of_le l0 hb1.size
  replace HW := Lib.hid (hstep HW hb1)
  clear hb1
  go_wp2_with fail
  refine (rsigned_z HA.out A1 cA1 _ (by exact h1)).mono ?_
  rintro e w2 ⟨A2, cA2, rfl, h2, hb2⟩
  replace r0 := keepc hb2 r0 l0
  replace f0 := keepf hb2 f0 l0
  replace r1 := keepc hb2 r1 l0
  replace f1 := keepf hb2 f1 l0
  replace r2 := keepc hb2 r2 l0
  replace f2 := keepf hb2 f2 l0
  replace r3 := keepc hb2 r3 l0
  replace f3 := keepf hb2 f3 l0
  replace r4 := keepc hb2 r4 l0
  replace f4 := keepf hb2 f4 l0
  replace l0 := Nat.lt_of_lt_of_le l0 hb2.size
  replace h1 := h1.to hb2
  replace HW := Lib.hid (hstep HW hb2)
  clear hb2
  go_upto_region 10 with fail
  obtain ⟨w3, hX⟩ : ∃ X : World, X = w2.alloc (.cells #[.bool (sn a), .slice A2 (ln (ab a)) cA2] 32) := ⟨_, rfl⟩
  rw [← hX]
  have hb3 : Below w2.heap.size w2 w3 := by rw [hX]; exact (Below.refl _ _).alloc (Nat.le_refl _) _
  have t0_0 : w3.cell? ⟨w2.heap.size, 0, none⟩ = some (.bool (sn a)) := by subst hX; go_simp
  have t0_1 : w3.cell? ⟨w2.heap.size, 1, none⟩ = some (.slice A2 (ln (ab a)) cA2) := by subst hX; go_simp
  have l100 : w2.heap.size < w3.heap.size := by rw [hX]; simp
  have n100 : w2.heap.size ≠ w.heap.size := by omega
  replace r0 := keepc hb3 r0 l0
  replace f0 := keepf hb3 f0 l0
  replace r1 := keepc hb3 r1 l0
  replace f1 := keepf hb3 f1 l0
  replace r2 := keepc hb3 r2 l0
  replace f2 := keepf hb3 f2 l0
  replace r3 := keepc hb3 r3 l0
  replace f3 := keepf hb3 f3 l0
  replace r4 := keepc hb3 r4 l0
  replace f4 := keepf hb3 f4 l0
  replace l0 := Nat.lt_of_lt_of_le l0 hb3.size
  replace h1 := h1.to hb3
  replace h2 := h2.to hb3
  replace HW := Lib.hid (hstep HW hb3)
  clear hb3
  clear hX
  obtain ⟨g0, hg0⟩ : ∃ g, g = w2.heap.size := ⟨_, rfl⟩
  rw [← hg0] at t0_0 t0_1 l100 n100
  rw [← hg0]
  clear hg0
  have u1 : IntKind.i64.wrap (n : Int) = (n : Int) := by have := HN.out; rw [IntKind.wrap_i64]; omega
  clear e1 e2 e3 e5 l1
  go_region_held3 (fun w' => w'.cell? ⟨g0, 0, none⟩ = some (.bool (sn a)) ∧ w'.cell? ⟨g0, 1, none⟩ = some (.slice A2 (ln (ab a)) cA2)) (first | with_reducible exact ⟨t0_0, t0_1⟩ | with_reducible exact ⟨(keepd t0_0), (keepd t0_1)⟩ | with_reducible exact ⟨(keepa t0_0 l100), (keepa t0_1 l100)⟩ | with_reducible exact ⟨(keepd (keepa t0_0 l100)), (keepd (keepa t0_1 l100))⟩ | with_reducible exact ⟨(keepa (keepd t0_0) l100), (keepa (keepd t0_1) l100)⟩ | with_reducible exact ⟨(keeps (keeps (keeps (keeps (keeps t0_0 n100) n100) n100) n100) n100), (keeps (keeps (keeps (keeps (keeps t0_1 n100) n100) n100) n100) n100)⟩) (first
    | (have _ := mk0; go_at_call 100; refine (rmake_re a U A2 T3 cA2 cT3 _ (by first | with_reducible exact h2 | with_reducible exact h2.alloc _ | exact h2 | exact h2.alloc _) (by exact i3) (Nat.le_trans ba.out (by omega)) (Nat.le_trans BU.out (by omega)) U0.out).mono ?_; rintro e w5 ⟨Y1, Y2, Y3, cY1, cY2, cY3, rfl, hz, ha⟩; have hb5 : Below w4.heap.size w4 w5 := (by first | with_reducible exact ha | with_reducible exact undrew ha | with_reducible exact unalloc ha | with_reducible exact undrewalloc ha | with_reducible exact unalloc (undrew ha) | with_reducible exact undrew (unalloc ha)); (try replace q1 := q1.to hb5); (try first | (with_reducible have q1 := newnat ha) | (with_reducible have q1 := newnat (undrew ha)) | (with_reducible have q1 := newnat (unalloc ha))); replace t0_0 := keepc hb5 t0_0 l100; replace t0_1 := keepc hb5 t0_1 l100; replace r0 := keepc hb5 r0 l0; replace f0 := keepf hb5 f0 l0; replace r1 := keepc hb5 r1 l0; replace f1 := keepf hb5 f1 l0; replace r2 := keepc hb5 r2 l0; replace f2 := keepf hb5 f2 l0; replace r3 := keepc hb5 r3 l0; replace f3 := keepf hb5 f3 l0; replace r4 := keepc hb5 r4 l0; replace f4 := keepf hb5 f4 l0; replace l0 := Nat.lt_of_lt_of_le l0 hb5.size; replace l100 := Nat.lt_of_lt_of_le l100 hb5.size; replace h1 := h1.to hb5; replace h2 := h2.to hb5; replace i3 := i3.to hb5; replace HW := Lib.hid (hstep HW hb5); clear hb5; clear ha; have mk1 : True := trivial; clear mk0)
    | (go_at_call 118; refine (rshl_one2 U n EU.out _ _ (by first | with_reducible exact q1 | with_reducible exact nat1_new _ _ | exact q1 | exact nat1_new _ _) (by have := HN.out; omega)).mono ?_; rintro e w4 ⟨T3, cT3, rfl, i3, ha⟩; have hb4 : Below w3.heap.size w3 w4 := (by first | with_reducible exact ha | with_reducible exact undrew ha | with_reducible exact unalloc ha | with_reducible exact undrewalloc ha | with_reducible exact unalloc (undrew ha) | with_reducible exact undrew (unalloc ha)); (try replace q1 := q1.to hb4); (try first | (with_reducible have q1 := newnat ha) | (with_reducible have q1 := newnat (undrew ha)) | (with_reducible have q1 := newnat (unalloc ha))); replace t0_0 := keepc hb4 t0_0 l100; replace t0_1 := keepc hb4 t0_1 l100; replace r0 := keepc hb4 r0 l0; replace f0 := keepf hb4 f0 l0; replace r1 := keepc hb4 r1 l0; replace f1 := keepf hb4 f1 l0; replace r2 := keepc hb4 r2 l0; replace f2 := keepf hb4 f2 l0; replace r3 := keepc hb4 r3 l0; replace f3 := keepf hb4 f3 l0; replace r4 := keepc hb4 r4 l0; replace f4 := keepf hb4 f4 l0; replace l0 := Nat.lt_of_lt_of_le l0 hb4.size; replace l100 := Nat.lt_of_lt_of_le l100 hb4.size; replace h1 := h1.to hb4; replace h2 := h2.to hb4; replace HW := Lib.hid (hstep HW hb4); clear hb4; clear ha; have mk0 : True := trivial))
  all_goals go_wp2_with fail
  all_goals exact bodyPost_ret (v := .agg #[.bool (sn (na (fr a 0 U))), .slice Y1 (ln (ab (na (fr a 0 U)))) cY1, .bool (sn (nb (fr a 0 U))), .slice Y2 (ln (ab (nb (fr a 0 U)))) cY2, .slice Y3 (ln (nd (fr a 0 U))) cY3]) (by simp [results, Tryz.results125, go_sem, r0, r1, r2, r3, r4, f0, f1, f2, f3, f4]) rfl (retNumC_fin HW hz (by omega) r0)

set_option maxRecDepth 100000 in
set_option maxHeartbeats 4000000 in
theorem rdyadic_mid (X : Nat) (hX : X < 18446744073709551616) (h0 : xE X ≠ 0) (hE : xE X < 1075) (w : World) :
    Calls Tryz.prog 125 #[.float .f64 X] w (RetNumC w ⟨xV X, 0⟩) := by
  have g2 := f64bits
  have e1 := mant52 hX
  have e2 := mexp11 hX
  have e5 := sgn63 hX
  have l1 := xE_lt X
  obtain ⟨M, hM⟩ : ∃ M, M = xM X := ⟨_, rfl⟩
  have HM : Hid (M < 18446744073709551616) := Lib.hid (by have := xM_lt X; omega)
  have e3 : bits .or .u64 (xF X : Int) 4503599627370496 = (M : Int) := by rw [or52 (xF_lt X), hM]; unfold xM; rw [if_neg h0]
  have e4 : ((xE X : Int) == 0) = false := by rw [beq_eq_false_iff_ne]; omega
  have HV := Lib.hid (x_small (X := X) (k := 1075 - xE X) (by unfold xP; rw [if_neg h0]; omega))
  obtain ⟨n, hn⟩ : ∃ n : Nat, 1075 - (xE X : Int) = (n : Int) := ⟨1075 - xE X, by omega⟩
  have HN : Hid (n ≤ 1075) := Lib.hid (by omega)
  rw [show 1075 - xE X = n by omega] at HV
  have t1 : decide ((1075 : Int) ≤ (xE X : Int)) = false := decide_eq_false (by omega)
  obtain ⟨E, hE2⟩ : ∃ E, E = xE X := ⟨_, rfl⟩
  rw [← hE2] at e2 e4 l1 hn hE t1
  obtain ⟨F, hF2⟩ : ∃ F, F = xF X := ⟨_, rfl⟩
  rw [← hF2] at e1 e3
  clear hE2 hF2 h0
  rw [← hM] at HV
  obtain ⟨S, hS⟩ : ∃ S, S = xS X := ⟨_, rfl⟩
  rw [← hS] at e5 HV
  rw [← HV.out]
  clear hM hS
  have ba : Hid (ln (ab (zi S M)) ≤ 2) := Lib.hid (by rw [zi_ab]; exact ln_le (by rw [show (4294967296 : Nat) ^ 2 = 18446744073709551616 by decide]; exact HM.out))
  obtain ⟨a, ha⟩ : ∃ a, a = zi S M := ⟨_, rfl⟩
  rw [← ha] at ba ⊢
  have HA := Lib.hid ha.symm
  obtain ⟨U, hU⟩ : ∃ U, U = 2 ^ n := ⟨_, rfl⟩
  rw [← hU]
  have EU := Lib.hid hU
  have BU : Hid (ln U ≤ 1000) := Lib.hid (by rw [hU]; have := ln_pow2 n; have := HN.out; omega)
  have U0 : Hid (U ≠ 0) := Lib.hid (by rw [hU]; have : 0 < 2 ^ n := Nat.pow_pos (by omega); exact Nat.ne_of_gt this)
  clear hU ha HV
  go_enter Tryz.func125, Tryz.ntmps125
  go_wp2_with fail
  obtain ⟨W, hW⟩ : ∃ W : World, W = (w.alloc (.cells #[.bool false, .slice none 0 0, .bool false, .slice none 0 0, .slice none 0 0] 34)) := ⟨_, rfl⟩
  have r0 : W.cell? ⟨w.heap.size, 0, none⟩ = some (.bool false) := by subst hW; go_simp
  have f0 : W.frozen? ⟨w.heap.size, 0, none⟩ = false := by subst hW; go_simp
  have r1 : W.cell? ⟨w.heap.size, 1, none⟩ = some (.slice none 0 0) := by subst hW; go_simp
  have f1 : W.frozen? ⟨w.heap.size, 1, none⟩ = false := by subst hW; go_simp
  have r2 : W.cell? ⟨w.heap.size, 2, none⟩ = some (.bool false) := by subst hW; go_simp
  have f2 : W.frozen? ⟨w.heap.size, 2, none⟩ = false := by subst hW; go_simp
  have r3 : W.cell? ⟨w.heap.size, 3, none⟩ = some (.slice none 0 0) := by subst hW; go_simp
  have f3 : W.frozen? ⟨w.heap.size, 3, none⟩ = false := by subst hW; go_simp
  have r4 : W.cell? ⟨w.heap.size, 4, none⟩ = some (.slice none 0 0) := by subst hW; go_simp
  have f4 : W.frozen? ⟨w.heap.size, 4, none⟩ = false := by subst hW; go_simp
  have HW : Below w.heap.size w W := by subst hW; exact ((Below.refl w.heap.size w).alloc (Nat.le_refl _) _)
  have l0 : w.heap.size < W.heap.size := by subst hW; simp
  rw [← hW]
  clear hW
  replace HW := Lib.hid HW
  refine (rnatOf_any M HM.out _).mono ?_
  rintro e w1 ⟨A1, cA1, rfl, h1, hb1⟩
  replace r0 := keepc hb1 r0 l0
  replace f0 := keepf hb1 f0 l0
  replace r1 := keepc hb1 r1 l0
  replace f1 := keepf hb1 f1 l0
  replace r2 := keepc hb1 r2 l0
  replace f2 := keepf hb1 f2 l0
  replace r3 := keepc hb1 r3 l0
  replace f3 := keepf hb1 f3 l0
  replace r4 := keepc hb1 r4 l0
  replace f4 := keepf hb1 f4 l0
  replace l0 := Nat.lt_of_lt_of_le l0 hb1.size
  replace HW := Lib.hid (hstep HW hb1)
  clear hb1
  go_wp2_with fail
  refine (rsigned_z HA.out A1 cA1 _ (by exact h1)).mono ?_
  rintro e w2 ⟨A2, cA2, rfl, h2, hb2⟩
  replace r0 := keepc hb2 r0 l0
  replace f0 := keepf hb2 f0 l0
  replace r1 := keepc hb2 r1 l0
  replace f1 := keepf hb2 f1 l0
  replace r2 := keepc hb2 r2 l0
  replace f2 := keepf hb2 f2 l0
  replace r3 := keepc hb2 r3 l0
  replace f3 := keepf hb2 f3 l0
  replace r4 := keepc hb2 r4 l0
  replace f4 := keepf hb2 f4 l0
  replace l0 := Nat.lt_of_lt_of_le l0 hb2.size
  replace h1 := h1.to hb2
  replace HW := Lib.hid (hstep HW hb2)
  clear hb2
  go_upto_region 10 with fail
  obtain ⟨w3, hX⟩ : ∃ X : World, X = w2.alloc (.cells #[.bool (sn a), .slice A2 (ln (ab a)) cA2] 32) := ⟨_, rfl⟩
  rw [← hX]
  have hb3 : Below w2.heap.size w2 w3 := by rw [hX]; exact (Below.refl _ _).alloc (Nat.le_refl _) _
  have t0_0 : w3.cell? ⟨w2.heap.size, 0, none⟩ = some (.bool (sn a)) := by subst hX; go_simp
  have t0_1 : w3.cell? ⟨w2.heap.size, 1, none⟩ = some (.slice A2 (ln (ab a)) cA2) := by subst hX; go_simp
  have l100 : w2.heap.size < w3.heap.size := by rw [hX]; simp
  have n100 : w2.heap.size ≠ w.heap.size := by omega
  replace r0 := keepc hb3 r0 l0
  replace f0 := keepf hb3 f0 l0
  replace r1 := keepc hb3 r1 l0
  replace f1 := keepf hb3 f1 l0
  replace r2 := keepc hb3 r2 l0
  replace f2 := keepf hb3 f2 l0
  replace r3 := keepc hb3 r3 l0
  replace f3 := keepf hb3 f3 l0
  replace r4 := keepc hb3 r4 l0
  replace f4 := keepf hb3 f4 l0
  replace l0 := Nat.lt_of_lt_of_le l0 hb3.size
  replace h1 := h1.to hb3
  replace h2 := h2.to hb3
  replace HW := Lib.hid (hstep HW hb3)
  clear hb3
  clear hX
  obtain ⟨g0, hg0⟩ : ∃ g, g = w2.heap.size := ⟨_, rfl⟩
  rw [← hg0] at t0_0 t0_1 l100 n100
  rw [← hg0]
  clear hg0
  have u1 : IntKind.i64.wrap (n : Int) = (n : Int) := by have := HN.out; rw [IntKind.wrap_i64]; omega
  clear e1 e2 e3 e5 l1 e4 t1 hE
  go_region_held3 (fun w' => w'.cell? ⟨g0, 0, none⟩ = some (.bool (sn a)) ∧ w'.cell? ⟨g0, 1, none⟩ = some (.slice A2 (ln (ab a)) cA2)) (first | with_reducible exact ⟨t0_0, t0_1⟩ | with_reducible exact ⟨(keepd t0_0), (keepd t0_1)⟩ | with_reducible exact ⟨(keepa t0_0 l100), (keepa t0_1 l100)⟩ | with_reducible exact ⟨(keepd (keepa t0_0 l100)), (keepd (keepa t0_1 l100))⟩ | with_reducible exact ⟨(keepa (keepd t0_0) l100), (keepa (keepd t0_1) l100)⟩ | with_reducible exact ⟨(keeps (keeps (keeps (keeps (keeps t0_0 n100) n100) n100) n100) n100), (keeps (keeps (keeps (keeps (keeps t0_1 n100) n100) n100) n100) n100)⟩) (first
    | (have _ := mk0; go_at_call 100; refine (rmake_re a U A2 T3 cA2 cT3 _ (by first | with_reducible exact h2 | with_reducible exact h2.alloc _ | exact h2 | exact h2.alloc _) (by exact i3) (Nat.le_trans ba.out (by omega)) (Nat.le_trans BU.out (by omega)) U0.out).mono ?_; rintro e w5 ⟨Y1, Y2, Y3, cY1, cY2, cY3, rfl, hz, ha⟩; have hb5 : Below w4.heap.size w4 w5 := (by first | with_reducible exact ha | with_reducible exact undrew ha | with_reducible exact unalloc ha | with_reducible exact undrewalloc ha | with_reducible exact unalloc (undrew ha) | with_reducible exact undrew (unalloc ha)); (try replace q1 := q1.to hb5); (try first | (with_reducible have q1 := newnat ha) | (with_reducible have q1 := newnat (undrew ha)) | (with_reducible have q1 := newnat (unalloc ha))); replace t0_0 := keepc hb5 t0_0 l100; replace t0_1 := keepc hb5 t0_1 l100; replace r0 := keepc hb5 r0 l0; replace f0 := keepf hb5 f0 l0; replace r1 := keepc hb5 r1 l0; replace f1 := keepf hb5 f1 l0; replace r2 := keepc hb5 r2 l0; replace f2 := keepf hb5 f2 l0; replace r3 := keepc hb5 r3 l0; replace f3 := keepf hb5 f3 l0; replace r4 := keepc hb5 r4 l0; replace f4 := keepf hb5 f4 l0; replace l0 := Nat.lt_of_lt_of_le l0 hb5.size; replace l100 := Nat.lt_of_lt_of_le l100 hb5.size; replace h1 := h1.to hb5; replace h2 := h2.to hb5; replace i3 := i3.to hb5; replace HW := Lib.hid (hstep HW hb5); clear hb5; clear ha; have mk1 : True := trivial; clear mk0)
    | (go_at_call 118; refine (rshl_one2 U n EU.out _ _ (by first | with_reducible exact q1 | with_reducible exact nat1_new _ _ | exact q1 | exact nat1_new _ _) (by have := HN.out; omega)).mono ?_; rintro e w4 ⟨T3, cT3, rfl, i3, ha⟩; have hb4 : Below w3.heap.size w3 w4 := (by first | with_reducible exact ha | with_reducible exact undrew ha | with_reducible exact unalloc ha | with_reducible exact undrewalloc ha | with_reducible exact unalloc (undrew ha) | with_reducible exact undrew (unalloc ha)); (try replace q1 := q1.to hb4); (try first | (with_reducible have q1 := newnat ha) | (with_reducible have q1 := newnat (undrew ha)) | (with_reducible have q1 := newnat (unalloc ha))); replace t0_0 := keepc hb4 t0_0 l100; replace t0_1 := keepc hb4 t0_1 l100; replace r0 := keepc hb4 r0 l0; replace f0 := keepf hb4 f0 l0; replace r1 := keepc hb4 r1 l0; replace f1 := keepf hb4 f1 l0; replace r2 := keepc hb4 r2 l0; replace f2 := keepf hb4 f2 l0; replace r3 := keepc hb4 r3 l0; replace f3 := keepf hb4 f3 l0; replace r4 := keepc hb4 r4 l0; replace f4 := keepf hb4 f4 l0; replace l0 := Nat.lt_of_lt_of_le l0 hb4.size; replace l100 := Nat.lt_of_lt_of_le l100 hb4.size; replace h1 := h1.to hb4; replace h2 := h2.to hb4; replace HW := Lib.hid (hstep HW hb4); clear hb4; clear ha; have mk0 : True := trivial))
  all_goals go_wp2_with fail
  all_goals exact bodyPost_ret (v := .agg #[.bool (sn (na (fr a 0 U))), .slice Y1 (ln (ab (na (fr a 0 U)))) cY1, .bool (sn (nb (fr a 0 U))), .slice Y2 (ln (ab (nb (fr a 0 U)))) cY2, .slice Y3 (ln (nd (fr a 0 U))) cY3]) (by simp [results, Tryz.results125, go_sem, r0, r1, r2, r3, r4, f0, f1, f2, f3, f4]) rfl (retNumC_fin HW hz (by omega) r0)

set_option maxRecDepth 100000 in
set_option maxHeartbeats 4000000 in
theorem rdyadic_big (X : Nat) (hX : X < 18446744073709551616) (hE : 1075 ≤ xE X) (w : World) :
    Calls Tryz.prog 125 #[.float .f64 X] w (RetNumC w ⟨xV X, 0⟩) := by
  have g2 := f64bits
  have e1 := mant52 hX
  have e2 := mexp11 hX
  have e5 := sgn63 hX
  have l1 := xE_lt X
  obtain ⟨M, hM⟩ : ∃ M, M = xM X := ⟨_, rfl⟩
  have HM : Hid (M < 18446744073709551616) := Lib.hid (by have := xM_lt X; omega)
  have h0 : xE X ≠ 0 := by omega
  have e3 : bits .or .u64 (xF X : Int) 4503599627370496 = (M : Int) := by rw [or52 (xF_lt X), hM]; unfold xM; rw [if_neg h0]
  have e4 : ((xE X : Int) == 0) = false := by rw [beq_eq_false_iff_ne]; omega
  have HV := Lib.hid (x_big hE)
  obtain ⟨n, hn⟩ : ∃ n : Nat, (xE X : Int) - 1075 = (n : Int) := ⟨xE X - 1075, by omega⟩
  have HN : Hid (n ≤ 1000) := Lib.hid (by omega)
  rw [show xE X - 1075 = n by omega] at HV
  have t1 : decide ((1075 : Int) ≤ (xE X : Int)) = true := decide_eq_true (by omega)
  obtain ⟨E, hE2⟩ : ∃ E, E = xE X := ⟨_, rfl⟩
  rw [← hE2] at e2 e4 l1 hn hE t1
  obtain ⟨F, hF2⟩ : ∃ F, F = xF X := ⟨_, rfl⟩
  rw [← hF2] at e1 e3
  clear hE2 hF2 h0
  rw [← hM] at HV
  obtain ⟨S, hS⟩ : ∃ S, S = xS X := ⟨_, rfl⟩
  rw [← hS] at e5 HV
  rw [← HV.out]
  clear hM hS
  have ba : Hid (ln (ab (zi S M)) ≤ 2) := Lib.hid (by rw [zi_ab]; exact ln_le (by rw [show (4294967296 : Nat) ^ 2 = 18446744073709551616 by decide]; exact HM.out))
  obtain ⟨a, ha⟩ : ∃ a, a = zi S M := ⟨_, rfl⟩
  have hz2 := zi_scale' S M (2 ^ n)
  rw [← ha] at hz2 ba
  obtain ⟨Z, hZ⟩ : ∃ Z, Z = zi S (M * 2 ^ n) := ⟨_, rfl⟩
  rw [← hZ] at hz2 ⊢
  obtain ⟨L, hL⟩ : ∃ L, L = ab a * 2 ^ n := ⟨_, rfl⟩
  rw [← hL] at hz2
  have EL := Lib.hid hL
  have EZ := Lib.hid hz2
  have HA := Lib.hid ha.symm
  have FZ := Lib.hid (ofInt_form Z)
  clear hz2 hZ hL ha HV
  go_enter Tryz.func125, Tryz.ntmps125
  go_wp2_with fail
  obtain ⟨W, hW⟩ : ∃ W : World, W = (w.alloc (.cells #[.bool false, .slice none 0 0, .bool false, .slice none 0 0, .slice none 0 0] 34)) := ⟨_, rfl⟩
  have r0 : W.cell? ⟨w.heap.size, 0, none⟩ = some (.bool false) := by subst hW; go_simp
  have f0 : W.frozen? ⟨w.heap.size, 0, none⟩ = false := by subst hW; go_simp
  have r1 : W.cell? ⟨w.heap.size, 1, none⟩ = some (.slice none 0 0) := by subst hW; go_simp
  have f1 : W.frozen? ⟨w.heap.size, 1, none⟩ = false := by subst hW; go_simp
  have r2 : W.cell? ⟨w.heap.size, 2, none⟩ = some (.bool false) := by subst hW; go_simp
  have f2 : W.frozen? ⟨w.heap.size, 2, none⟩ = false := by subst hW; go_simp
  have r3 : W.cell? ⟨w.heap.size, 3, none⟩ = some (.slice none 0 0) := by subst hW; go_simp
  have f3 : W.frozen? ⟨w.heap.size, 3, none⟩ = false := by subst hW; go_simp
  have r4 : W.cell? ⟨w.heap.size, 4, none⟩ = some (.slice none 0 0) := by subst hW; go_simp
  have f4 : W.frozen? ⟨w.heap.size, 4, none⟩ = false := by subst hW; go_simp
  have HW : Below w.heap.size w W := by subst hW; exact ((Below.refl w.heap.size w).alloc (Nat.le_refl _) _)
  have l0 : w.heap.size < W.heap.size := by subst hW; simp
  rw [← hW]
  clear hW
  replace HW := Lib.hid HW
  refine (rnatOf_any M HM.out _).mono ?_
  rintro e w1 ⟨A1, cA1, rfl, h1, hb1⟩
  replace r0 := keepc hb1 r0 l0
  replace f0 := keepf hb1 f0 l0
  replace r1 := keepc hb1 r1 l0
  replace f1 := keepf hb1 f1 l0
  replace r2 := keepc hb1 r2 l0
  replace f2 := keepf hb1 f2 l0
  replace r3 := keepc hb1 r3 l0
  replace f3 := keepf hb1 f3 l0
  replace r4 := keepc hb1 r4 l0
  replace f4 := keepf hb1 f4 l0
  replace l0 := Nat.lt_of_lt_of_le l0 hb1.size
  replace HW := Lib.hid (hstep HW hb1)
  clear hb1
  go_wp2_with fail
  refine (rsigned_z HA.out A1 cA1 _ (by exact h1)).mono ?_
  rintro e w2 ⟨A2, cA2, rfl, h2, hb2⟩
  replace r0 := keepc hb2 r0 l0
  replace f0 := keepf hb2 f0 l0
  replace r1 := keepc hb2 r1 l0
  replace f1 := keepf hb2 f1 l0
  replace r2 := keepc hb2 r2 l0
  replace f2 := keepf hb2 f2 l0
  replace r3 := keepc hb2 r3 l0
  replace f3 := keepf hb2 f3 l0
  replace r4 := keepc hb2 r4 l0
  replace f4 := keepf hb2 f4 l0
  replace l0 := Nat.lt_of_lt_of_le l0 hb2.size
  replace h1 := h1.to hb2
  replace HW := Lib.hid (hstep HW hb2)
  clear hb2
  go_upto_region 9 with fail
  obtain ⟨w3, hX⟩ : ∃ X : World, X = w2.alloc (.cells #[.bool (sn a), .slice A2 (ln (ab a)) cA2] 32) := ⟨_, rfl⟩
  rw [← hX]
  have hb3 : Below w2.heap.size w2 w3 := by rw [hX]; exact (Below.refl _ _).alloc (Nat.le_refl _) _
  have t0_0 : w3.cell? ⟨w2.heap.size, 0, none⟩ = some (.bool (sn a)) := by subst hX; go_simp
  have t0_1 : w3.cell? ⟨w2.heap.size, 1, none⟩ = some (.slice A2 (ln (ab a)) cA2) := by subst hX; go_simp
  have l100 : w2.heap.size < w3.heap.size := by rw [hX]; simp
  have n100 : w2.heap.size ≠ w.heap.size := by omega
  replace r0 := keepc hb3 r0 l0
  replace f0 := keepf hb3 f0 l0
  replace r1 := keepc hb3 r1 l0
  replace f1 := keepf hb3 f1 l0
  replace r2 := keepc hb3 r2 l0
  replace f2 := keepf hb3 f2 l0
  replace r3 := keepc hb3 r3 l0
  replace f3 := keepf hb3 f3 l0
  replace r4 := keepc hb3 r4 l0
  replace f4 := keepf hb3 f4 l0
  replace l0 := Nat.lt_of_lt_of_le l0 hb3.size
  replace h1 := h1.to hb3
  replace h2 := h2.to hb3
  replace HW := Lib.hid (hstep HW hb3)
  clear hb3
  clear hX
  obtain ⟨g0, hg0⟩ : ∃ g, g = w2.heap.size := ⟨_, rfl⟩
  rw [← hg0] at t0_0 t0_1 l100 n100
  rw [← hg0]
  clear hg0
  have u1 : IntKind.i64.wrap (n : Int) = (n : Int) := by have := HN.out; rw [IntKind.wrap_i64]; omega
  clear e1 e2 e3 e5 l1 e4 t1 hE
  go_region_held3 (fun w' => w'.cell? ⟨g0, 0, none⟩ = some (.bool (sn a)) ∧ w'.cell? ⟨g0, 1, none⟩ = some (.slice A2 (ln (ab a)) cA2)) (first | with_reducible exact ⟨t0_0, t0_1⟩ | with_reducible exact ⟨(keepd t0_0), (keepd t0_1)⟩ | with_reducible exact ⟨(keepa t0_0 l100), (keepa t0_1 l100)⟩ | with_reducible exact ⟨(keepd (keepa t0_0 l100)), (keepd (keepa t0_1 l100))⟩ | with_reducible exact ⟨(keepa (keepd t0_0) l100), (keepa (keepd t0_1) l100)⟩ | with_reducible exact ⟨(keeps (keeps (keeps (keeps (keeps t0_0 n100) n100) n100) n100) n100), (keeps (keeps (keeps (keeps (keeps t0_1 n100) n100) n100) n100) n100)⟩ | with_reducible exact ⟨(keepa (keeps (keeps (keeps (keeps (keeps t0_0 n100) n100) n100) n100) n100) (lt5 l100)), (keepa (keeps (keeps (keeps (keeps (keeps t0_1 n100) n100) n100) n100) n100) (lt5 l100))⟩) (first
    | (have _ := mk0; go_at_call 117; refine (rsigned_z EZ.out T1 cT1 _ (by first | with_reducible exact i1 | with_reducible exact i1.alloc _ | exact i1 | exact i1.alloc _)).mono ?_; rintro e w5 ⟨V1, cV1, rfl, v1, ha⟩; have hb5 : Below w4.heap.size w4 w5 := (by first | with_reducible exact ha | with_reducible exact undrew ha | with_reducible exact unalloc ha | with_reducible exact undrewalloc ha | with_reducible exact unalloc (undrew ha) | with_reducible exact undrew (unalloc ha)); (try replace q1 := q1.to hb5); (try first | (with_reducible have q1 := newnat ha) | (with_reducible have q1 := newnat (undrew ha)) | (with_reducible have q1 := newnat (unalloc ha))); replace t0_0 := keepc hb5 t0_0 l100; replace t0_1 := keepc hb5 t0_1 l100; replace r0 := keepc hb5 r0 l0; replace f0 := keepf hb5 f0 l0; replace r1 := keepc hb5 r1 l0; replace f1 := keepf hb5 f1 l0; replace r2 := keepc hb5 r2 l0; replace f2 := keepf hb5 f2 l0; replace r3 := keepc hb5 r3 l0; replace f3 := keepf hb5 f3 l0; replace r4 := keepc hb5 r4 l0; replace f4 := keepf hb5 f4 l0; replace l0 := Nat.lt_of_lt_of_le l0 hb5.size; replace l100 := Nat.lt_of_lt_of_le l100 hb5.size; replace h1 := h1.to hb5; replace h2 := h2.to hb5; replace i1 := i1.to hb5; replace HW := Lib.hid (hstep HW hb5); clear hb5; clear ha; have mk1 : True := trivial; clear mk0)
    | (go_at_call 118; refine (rshl_nm (ab a) n L EL.out A2 cA2 _ (by first | with_reducible exact h2 | with_reducible exact h2.alloc _ | exact h2 | exact h2.alloc _) (Nat.le_trans ba.out (by omega)) (Nat.le_trans HN.out (by omega))).mono ?_; rintro e w4 ⟨T1, cT1, rfl, i1, ha⟩; have hb4 : Below w3.heap.size w3 w4 := (by first | with_reducible exact ha | with_reducible exact undrew ha | with_reducible exact unalloc ha | with_reducible exact undrewalloc ha | with_reducible exact unalloc (undrew ha) | with_reducible exact undrew (unalloc ha)); (try replace q1 := q1.to hb4); (try first | (with_reducible have q1 := newnat ha) | (with_reducible have q1 := newnat (undrew ha)) | (with_reducible have q1 := newnat (unalloc ha))); replace t0_0 := keepc hb4 t0_0 l100; replace t0_1 := keepc hb4 t0_1 l100; replace r0 := keepc hb4 r0 l0; replace f0 := keepf hb4 f0 l0; replace r1 := keepc hb4 r1 l0; replace f1 := keepf hb4 f1 l0; replace r2 := keepc hb4 r2 l0; replace f2 := keepf hb4 f2 l0; replace r3 := keepc hb4 r3 l0; replace f3 := keepf hb4 f3 l0; replace r4 := keepc hb4 r4 l0; replace f4 := keepf hb4 f4 l0; replace l0 := Nat.lt_of_lt_of_le l0 hb4.size; replace l100 := Nat.lt_of_lt_of_le l100 hb4.size; replace h1 := h1.to hb4; replace h2 := h2.to hb4; replace HW := Lib.hid (hstep HW hb4); clear hb4; clear ha; have mk0 : True := trivial))
  all_goals
    go_wp2_with fail
    try (rw [past5 l0]; obtain ⟨Y, hY⟩ : ∃ Y : World, Y = w5.alloc (.cells #[.int .u32 1] 45) := ⟨_, rfl⟩; have bY : Below w5.heap.size w5 Y := (by rw [hY]; exact (Below.refl _ _).alloc (Nat.le_refl _) _); have q1 : Nat32 Y (some ⟨w5.heap.size, 0, none⟩) 1 := (by rw [hY]; exact nat1_new _ _); rw [← hY]; clear hY; replace v1 := v1.to bY; replace HW := Lib.hid (hstep HW bY); replace r0 := keepc bY r0 l0; replace f0 := keepf bY f0 l0; replace r1 := keepc bY r1 l0; replace f1 := keepf bY f1 l0; replace r2 := keepc bY r2 l0; replace f2 := keepf bY f2 l0; replace r3 := keepc bY r3 l0; replace f3 := keepf bY f3 l0; replace r4 := keepc bY r4 l0; replace f4 := keepf bY f4 l0; clear bY)
    obtain ⟨e1, e2, e3⟩ := FZ.out
    have h := retNumC_fin (q := Cx.ofInt Z) (A1 := V1) (A2 := none) (d1 := cV1) (d2 := 0) (d3 := 1) HW ⟨by rw [e1]; exact v1, by rw [e2]; exact fun e => absurd rfl e, by rw [e3]; exact q1⟩ (by omega) r0
    rw [e1, e2, e3, sn_zero, show ab 0 = 0 from rfl, ln_zero, ln_one] at h
    first
      | exact bodyPost_ret (v := .agg #[.bool (sn Z), .slice V1 (ln (ab Z)) cV1, .bool false, .slice none 0 0, .slice (some ⟨w3.heap.size, 0, none⟩) 1 1]) (by simp [results, Tryz.results125, go_sem, r0, r1, r2, r3, r4, f0, f1, f2, f3, f4]) rfl h
      | exact bodyPost_ret (v := .agg #[.bool (sn Z), .slice V1 (ln (ab Z)) cV1, .bool false, .slice none 0 0, .slice (some ⟨w4.heap.size, 0, none⟩) 1 1]) (by simp [results, Tryz.results125, go_sem, r0, r1, r2, r3, r4, f0, f1, f2, f3, f4]) rfl h
      | exact bodyPost_ret (v := .agg #[.bool (sn Z), .slice V1 (ln (ab Z)) cV1, .bool false, .slice none 0 0, .slice (some ⟨w5.heap.size, 0, none⟩) 1 1]) (by simp [results, Tryz.results125, go_sem, r0, r1, r2, r3, r4, f0, f1, f2, f3, f4]) rfl h

/-- 'dyadic(f)'. -/
theorem rdyadic_any (X : Nat) (hX : X < 18446744073709551616) (w : World) : Calls Tryz.prog 125 #[.float .f64 X] w (RetNumC w ⟨xV X, 0⟩) := by
  by_cases h0 : xE X = 0
  · exact rdyadic_low X hX h0 w
  · by_cases h1 : xE X < 1075
    · exact rdyadic_mid X hX h0 h1 w
    · exact rdyadic_big X hX (by omega) w
theorem x_sz0 (X : Nat) : sz 80 ⟨xV X, 0⟩ := by
  have h := cx_sz X X
  have e : (⟨xV X, 0⟩ : Cx) = (cx X X).reOf := rfl
  rw [e, ← re_fr]
  exact fr_sz (nd_ne0 _) h.1 (by show ln 0 ≤ 80; rw [ln_zero]; omega) h.2.2
theorem i_form : na ⟨0, 1⟩ = 0 ∧ nb ⟨0, 1⟩ = 1 ∧ nd ⟨0, 1⟩ = 1 := of_rep ⟨by decide, by decide, by simp, by simp⟩
theorem i_sz : sz 1 ⟨0, 1⟩ := by
  obtain ⟨e1, e2, e3⟩ := i_form
  unfold sz; rw [e1, e2, e3]
  refine ⟨by show ln 0 ≤ 1; rw [ln_zero]; omega, by show ln 1 ≤ 1; rw [ln_one]; omega, by rw [ln_one]; omega⟩
theorem x_add (X Y : Nat) : (⟨xV X, 0⟩ : Cx).add ((⟨xV Y, 0⟩ : Cx).mul ⟨0, 1⟩) = cx X Y := by
  unfold cx
  refine Cx.ext' ?_ ?_ <;> simp only [Cx.add, Cx.mul] <;> grind
theorem rint_one (z : Int) (hz : z = 1) (w : World) : Calls Tryz.prog 126 #[.int .i64 1] w (RetWholeC w z) := by
  subst hz; exact rintOf_any 1 w (by omega) (by omega)
theorem rmul_i (r i : Cx) (z : Int) (hz : z = 1) (hi : i = ⟨0, 1⟩) (B1 B2 B3 T G : Option Addr) (cB1 cB2 cB3 cT : Nat) (w : World) (hx : Num3C w B1 B2 B3 r) (hT : Nat32 w T (ab z)) (hG : Nat32 w G 1) (hs : sz 80 r) :
    Calls Tryz.prog 31 #[.agg #[.bool (sn (na r)), .slice B1 (ln (ab (na r))) cB1, .bool (sn (nb r)), .slice B2 (ln (ab (nb r))) cB2, .slice B3 (ln (nd r)) cB3], .agg #[.bool false, .slice none 0 0, .bool (sn z), .slice T (ln (ab z)) cT, .slice G 1 1]] w (RetNumC w (r.mul i)) := by
  subst hz hi
  obtain ⟨e1, e2, e3⟩ := i_form
  have h := rmul_any r ⟨0, 1⟩ B1 B2 B3 none T G cB1 cB2 cB3 0 cT 1 w hx ⟨by rw [e1]; exact Nat32.zero _ _, by rw [e2]; exact hT, by rw [e3]; exact hG⟩ (sz.mono hs (by omega)) (sz.mono i_sz (by omega))
  rw [e1, e2, e3, show ab 0 = 0 from rfl, ln_zero, ln_one, show sn 0 = false from rfl] at h
  exact h

set_option maxHeartbeats 4000000 in
theorem rcomplex_bad1 (X Y : Nat) (hX : X < 18446744073709551616) (hY : Y < 18446744073709551616) (hE : xE X = 2047) (w : World) :
    Calls Tryz.prog 62 #[.complex .f64 X Y] w (RetNumCE w 1 Cx.zero) := by
  have C0 := Lib.hid (fun w => rfinite_any X hX false (by rw [decide_eq_true hE]; rfl) w)
  have HZ := Lib.hid (fun w => rwhole_any 0 w (by omega) (by omega))
  obtain ⟨q, hq⟩ : ∃ q : Cx, q = Cx.zero := ⟨_, rfl⟩
  rw [show Cx.ofInt 0 = q from hq.symm] at HZ
  rw [← hq]
  clear hq hX hY hE
  go_enter Tryz.func62, Tryz.ntmps62
  go_wp2_with fail
  obtain ⟨W, hW⟩ : ∃ W : World, W = (w.alloc (.cells #[.bool false, .slice none 0 0, .bool false, .slice none 0 0, .slice none 0 0] 34)) := ⟨_, rfl⟩
  have r0 : W.cell? ⟨w.heap.size, 0, none⟩ = some (.bool false) := by subst hW; go_simp
  have f0 : W.frozen? ⟨w.heap.size, 0, none⟩ = false := by subst hW; go_simp
  have r1 : W.cell? ⟨w.heap.size, 1, none⟩ = some (.slice none 0 0) := by subst hW; go_simp
  have f1 : W.frozen? ⟨w.heap.size, 1, none⟩ = false := by subst hW; go_simp
  have r2 : W.cell? ⟨w.heap.size, 2, none⟩ = some (.bool false) := by subst hW; go_simp
  have f2 : W.frozen? ⟨w.heap.size, 2, none⟩ = false := by subst hW; go_simp
  have r3 : W.cell? ⟨w.heap.size, 3, none⟩ = some (.slice none 0 0) := by subst hW; go_simp
  have f3 : W.frozen? ⟨w.heap.size, 3, none⟩ = false := by subst hW; go_simp
  have r4 : W.cell? ⟨w.heap.size, 4, none⟩ = some (.slice none 0 0) := by subst hW; go_simp
  have f4 : W.frozen? ⟨w.heap.size, 4, none⟩ = false := by subst hW; go_simp
  have HW : Below w.heap.size w W := by subst hW; exact ((Below.refl w.heap.size w).alloc (Nat.le_refl _) _)
  have l0 : w.heap.size < W.heap.size := by subst hW; simp
  rw [← hW]
  clear hW
  replace HW := Lib.hid HW
  refine (C0.out _).mono ?_
  rintro e w01 ⟨rfl, hw⟩
  rw [hw]
  clear hw w01
  go_wp2_with fail
  refine (HZ.out _).mono ?_
  rintro e w1 ⟨Y1, Y2, Y3, cY1, cY2, cY3, rfl, hz, hb1⟩
  replace r0 := keepc hb1 r0 l0
  replace f0 := keepf hb1 f0 l0
  replace r1 := keepc hb1 r1 l0
  replace f1 := keepf hb1 f1 l0
  replace r2 := keepc hb1 r2 l0
  replace f2 := keepf hb1 f2 l0
  replace r3 := keepc hb1 r3 l0
  replace f3 := keepf hb1 f3 l0
  replace r4 := keepc hb1 r4 l0
  replace f4 := keepf hb1 f4 l0
  replace l0 := Nat.lt_of_lt_of_le l0 hb1.size
  replace HW := Lib.hid (hstep HW hb1)
  clear hb1
  go_wp2_with fail
  exact bodyPost_ret (v := .tuple #[.agg #[.bool (sn (na q)), .slice Y1 (ln (ab (na q))) cY1, .bool (sn (nb q)), .slice Y2 (ln (ab (nb q))) cY2, .slice Y3 (ln (nd q)) cY3], .int .i64 1]) (by simp [results, Tryz.results62, go_sem, r0, r1, r2, r3, r4, f0, f1, f2, f3, f4]) rfl (retNumCE_fin HW hz (by omega) r0)

set_option maxHeartbeats 4000000 in
theorem rcomplex_bad2 (X Y : Nat) (hX : X < 18446744073709551616) (hY : Y < 18446744073709551616) (hE : xE X ≠ 2047) (hF : xE Y = 2047) (w : World) :
    Calls Tryz.prog 62 #[.complex .f64 X Y] w (RetNumCE w 1 Cx.zero) := by
  have C0 := Lib.hid (fun w => rfinite_any X hX true (by rw [decide_eq_false hE]; rfl) w)
  have C1 := Lib.hid (fun w => rfinite_any Y hY false (by rw [decide_eq_true hF]; rfl) w)
  have HZ := Lib.hid (fun w => rwhole_any 0 w (by omega) (by omega))
  obtain ⟨q, hq⟩ : ∃ q : Cx, q = Cx.zero := ⟨_, rfl⟩
  rw [show Cx.ofInt 0 = q from hq.symm] at HZ
  rw [← hq]
  clear hq hX hY hE hF
  go_enter Tryz.func62, Tryz.ntmps62
  go_wp2_with fail
  obtain ⟨W, hW⟩ : ∃ W : World, W = (w.alloc (.cells #[.bool false, .slice none 0 0, .bool false, .slice none 0 0, .slice none 0 0] 34)) := ⟨_, rfl⟩
  have r0 : W.cell? ⟨w.heap.size, 0, none⟩ = some (.bool false) := by subst hW; go_simp
  have f0 : W.frozen? ⟨w.heap.size, 0, none⟩ = false := by subst hW; go_simp
  have r1 : W.cell? ⟨w.heap.size, 1, none⟩ = some (.slice none 0 0) := by subst hW; go_simp
  have f1 : W.frozen? ⟨w.heap.size, 1, none⟩ = false := by subst hW; go_simp
  have r2 : W.cell? ⟨w.heap.size, 2, none⟩ = some (.bool false) := by subst hW; go_simp
  have f2 : W.frozen? ⟨w.heap.size, 2, none⟩ = false := by subst hW; go_simp
  have r3 : W.cell? ⟨w.heap.size, 3, none⟩ = some (.slice none 0 0) := by subst hW; go_simp
  have f3 : W.frozen? ⟨w.heap.size, 3, none⟩ = false := by subst hW; go_simp
  have r4 : W.cell? ⟨w.heap.size, 4, none⟩ = some (.slice none 0 0) := by subst hW; go_simp
  have f4 : W.frozen? ⟨w.heap.size, 4, none⟩ = false := by subst hW; go_simp
  have HW : Below w.heap.size w W := by subst hW; exact ((Below.refl w.heap.size w).alloc (Nat.le_refl _) _)
  have l0 : w.heap.size < W.heap.size := by subst hW; simp
  rw [← hW]
  clear hW
  replace HW := Lib.hid HW
  refine (C0.out _).mono ?_
  rintro e w01 ⟨rfl, hw⟩
  rw [hw]
  clear hw w01
  go_wp2_with fail
  refine (C1.out _).mono ?_
  rintro e w01 ⟨rfl, hw⟩
  rw [hw]
  clear hw w01
  go_wp2_with fail
  refine (HZ.out _).mono ?_
  rintro e w1 ⟨Y1, Y2, Y3, cY1, cY2, cY3, rfl, hz, hb1⟩
  replace r0 := keepc hb1 r0 l0
  replace f0 := keepf hb1 f0 l0
  replace r1 := keepc hb1 r1 l0
  replace f1 := keepf hb1 f1 l0
  replace r2 := keepc hb1 r2 l0
  replace f2 := keepf hb1 f2 l0
  replace r3 := keepc hb1 r3 l0
  replace f3 := keepf hb1 f3 l0
  replace r4 := keepc hb1 r4 l0
  replace f4 := keepf hb1 f4 l0
  replace l0 := Nat.lt_of_lt_of_le l0 hb1.size
  replace HW := Lib.hid (hstep HW hb1)
  clear hb1
  go_wp2_with fail
  exact bodyPost_ret (v := .tuple #[.agg #[.bool (sn (na q)), .slice Y1 (ln (ab (na q))) cY1, .bool (sn (nb q)), .slice Y2 (ln (ab (nb q))) cY2, .slice Y3 (ln (nd q)) cY3], .int .i64 1]) (by simp [results, Tryz.results62, go_sem, r0, r1, r2, r3, r4, f0, f1, f2, f3, f4]) rfl (retNumCE_fin HW hz (by omega) r0)

set_option maxHeartbeats 4000000 in
theorem rcomplex_fin (X Y : Nat) (hX : X < 18446744073709551616) (hY : Y < 18446744073709551616) (hE : xE X ≠ 2047) (hF : xE Y ≠ 2047) (w : World) :
    Calls Tryz.prog 62 #[.complex .f64 X Y] w (RetNumCE w 0 (cx X Y)) := by
  have C1 := Lib.hid (fun w => rfinite_any X hX true (by rw [decide_eq_false hE]; rfl) w)
  have C2 := Lib.hid (fun w => rfinite_any Y hY true (by rw [decide_eq_false hF]; rfl) w)
  have D1 := Lib.hid (fun w => rdyadic_any X hX w)
  have D2 := Lib.hid (fun w => rdyadic_any Y hY w)
  rw [← x_add X Y]
  have z1 := Lib.hid (x_sz0 X)
  have z2 := Lib.hid (x_sz0 Y)
  obtain ⟨p, hp⟩ : ∃ p : Cx, p = ⟨xV X, 0⟩ := ⟨_, rfl⟩
  obtain ⟨r, hr⟩ : ∃ p : Cx, p = ⟨xV Y, 0⟩ := ⟨_, rfl⟩
  obtain ⟨i, hi⟩ : ∃ p : Cx, p = ⟨0, 1⟩ := ⟨_, rfl⟩
  rw [← hp] at D1 z1
  rw [← hr] at D2 z2
  rw [← hp, ← hr, ← hi]
  have HI := Lib.hid hi
  obtain ⟨z, hz⟩ : ∃ z : Int, z = 1 := ⟨_, rfl⟩
  have HZ := Lib.hid hz
  have z3 : Hid (sz 161 (r.mul i)) := Lib.hid (sz_mul z2.out (by rw [hi]; exact sz.mono i_sz (by omega)))
  clear hX hY hE hF hp hr hi hz
  go_enter Tryz.func62, Tryz.ntmps62
  go_wp2_with fail
  obtain ⟨W, hW⟩ : ∃ W : World, W = (w.alloc (.cells #[.bool false, .slice none 0 0, .bool false, .slice none 0 0, .slice none 0 0] 34)) := ⟨_, rfl⟩
  have r0 : W.cell? ⟨w.heap.size, 0, none⟩ = some (.bool false) := by subst hW; go_simp
  have f0 : W.frozen? ⟨w.heap.size, 0, none⟩ = false := by subst hW; go_simp
  have r1 : W.cell? ⟨w.heap.size, 1, none⟩ = some (.slice none 0 0) := by subst hW; go_simp
  have f1 : W.frozen? ⟨w.heap.size, 1, none⟩ = false := by subst hW; go_simp
  have r2 : W.cell? ⟨w.heap.size, 2, none⟩ = some (.bool false) := by subst hW; go_simp
  have f2 : W.frozen? ⟨w.heap.size, 2, none⟩ = false := by subst hW; go_simp
  have r3 : W.cell? ⟨w.heap.size, 3, none⟩ = some (.slice none 0 0) := by subst hW; go_simp
  have f3 : W.frozen? ⟨w.heap.size, 3, none⟩ = false := by subst hW; go_simp
  have r4 : W.cell? ⟨w.heap.size, 4, none⟩ = some (.slice none 0 0) := by subst hW; go_simp
  have f4 : W.frozen? ⟨w.heap.size, 4, none⟩ = false := by subst hW; go_simp
  have HW : Below w.heap.size w W := by subst hW; exact ((Below.refl w.heap.size w).alloc (Nat.le_refl _) _)
  have l0 : w.heap.size < W.heap.size := by subst hW; simp
  rw [← hW]
  clear hW
  replace HW := Lib.hid HW
  refine (C1.out _).mono ?_
  rintro e w01 ⟨rfl, hw⟩
  rw [hw]
  clear hw w01
  go_wp2_with fail
  refine (C2.out _).mono ?_
  rintro e w01 ⟨rfl, hw⟩
  rw [hw]
  clear hw w01
  go_wp2_with fail
  refine (D1.out _).mono ?_
  rintro e w1 ⟨A1, A2, A3, cA1, cA2, cA3, rfl, h1, hb1⟩
  replace r0 := keepc hb1 r0 l0
  replace f0 := keepf hb1 f0 l0
  replace r1 := keepc hb1 r1 l0
  replace f1 := keepf hb1 f1 l0
  replace r2 := keepc hb1 r2 l0
  replace f2 := keepf hb1 f2 l0
  replace r3 := keepc hb1 r3 l0
  replace f3 := keepf hb1 f3 l0
  replace r4 := keepc hb1 r4 l0
  replace f4 := keepf hb1 f4 l0
  replace l0 := Nat.lt_of_lt_of_le l0 hb1.size
  replace HW := Lib.hid (hstep HW hb1)
  clear hb1
  go_wp2_with fail
  refine (D2.out _).mono ?_
  rintro e w2 ⟨B1, B2, B3, cB1, cB2, cB3, rfl, h2, hb2⟩
  replace r0 := keepc hb2 r0 l0
  replace f0 := keepf hb2 f0 l0
  replace r1 := keepc hb2 r1 l0
  replace f1 := keepf hb2 f1 l0
  replace r2 := keepc hb2 r2 l0
  replace f2 := keepf hb2 f2 l0
  replace r3 := keepc hb2 r3 l0
  replace f3 := keepf hb2 f3 l0
  replace r4 := keepc hb2 r4 l0
  replace f4 := keepf hb2 f4 l0
  replace l0 := Nat.lt_of_lt_of_le l0 hb2.size
  replace h1 := h1.to hb2
  replace HW := Lib.hid (hstep HW hb2)
  clear hb2
  go_wp2_with fail
  refine (rint_one z HZ.out _).mono ?_
  rintro e w3 ⟨T, cT, rfl, h3, hb3⟩
  replace r0 := keepc hb3 r0 l0
  replace f0 := keepf hb3 f0 l0
  replace r1 := keepc hb3 r1 l0
  replace f1 := keepf hb3 f1 l0
  replace r2 := keepc hb3 r2 l0
  replace f2 := keepf hb3 f2 l0
  replace r3 := keepc hb3 r3 l0
  replace f3 := keepf hb3 f3 l0
  replace r4 := keepc hb3 r4 l0
  replace f4 := keepf hb3 f4 l0
  replace l0 := Nat.lt_of_lt_of_le l0 hb3.size
  replace h1 := h1.to hb3
  replace h2 := h2.to hb3
  replace HW := Lib.hid (hstep HW hb3)
  clear hb3
  go_wp2_with fail
  refine (rmul_i r i z HZ.out HI.out B1 B2 B3 T _ cB1 cB2 cB3 cT _ (by exact h2.to ((Below.refl _ _).alloc (Nat.le_refl _) _)) (by exact h3.alloc _) (by exact nat1_new _ _) z2.out).mono ?_
  rintro e w4 ⟨M1, M2, M3, cM1, cM2, cM3, rfl, h4, hb4⟩
  replace hb4 := unalloc hb4
  replace r0 := keepc hb4 r0 l0
  replace f0 := keepf hb4 f0 l0
  replace r1 := keepc hb4 r1 l0
  replace f1 := keepf hb4 f1 l0
  replace r2 := keepc hb4 r2 l0
  replace f2 := keepf hb4 f2 l0
  replace r3 := keepc hb4 r3 l0
  replace f3 := keepf hb4 f3 l0
  replace r4 := keepc hb4 r4 l0
  replace f4 := keepf hb4 f4 l0
  replace l0 := Nat.lt_of_lt_of_le l0 hb4.size
  replace h1 := h1.to hb4
  replace h2 := h2.to hb4
  replace h3 := h3.to hb4
  replace HW := Lib.hid (hstep HW hb4)
  clear hb4
  go_wp2_with fail
  refine (radd_any p (r.mul i) A1 A2 A3 M1 M2 M3 cA1 cA2 cA3 cM1 cM2 cM3 _ (by exact h1) (by exact h4) (sz.mono z1.out (by omega)) (sz.mono z3.out (by omega))).mono ?_
  rintro e w5 ⟨Y1, Y2, Y3, cY1, cY2, cY3, rfl, hz, hb5⟩
  replace r0 := keepc hb5 r0 l0
  replace f0 := keepf hb5 f0 l0
  replace r1 := keepc hb5 r1 l0
  replace f1 := keepf hb5 f1 l0
  replace r2 := keepc hb5 r2 l0
  replace f2 := keepf hb5 f2 l0
  replace r3 := keepc hb5 r3 l0
  replace f3 := keepf hb5 f3 l0
  replace r4 := keepc hb5 r4 l0
  replace f4 := keepf hb5 f4 l0
  replace l0 := Nat.lt_of_lt_of_le l0 hb5.size
  replace h1 := h1.to hb5
  replace h2 := h2.to hb5
  replace h3 := h3.to hb5
  replace h4 := h4.to hb5
  replace HW := Lib.hid (hstep HW hb5)
  clear hb5
  go_wp2_with fail
  exact bodyPost_ret (v := .tuple #[.agg #[.bool (sn (na (p.add (r.mul i)))), .slice Y1 (ln (ab (na (p.add (r.mul i))))) cY1, .bool (sn (nb (p.add (r.mul i)))), .slice Y2 (ln (ab (nb (p.add (r.mul i))))) cY2, .slice Y3 (ln (nd (p.add (r.mul i)))) cY3], .int .i64 0]) (by simp [results, Tryz.results62, go_sem, r0, r1, r2, r3, r4, f0, f1, f2, f3, f4]) rfl (retNumCE_fin HW hz (by omega) r0)

theorem rcomplex_bad (X Y : Nat) (hX : X < 18446744073709551616) (hY : Y < 18446744073709551616) (hE : xE X = 2047 ∨ xE Y = 2047) (w : World) : Calls Tryz.prog 62 #[.complex .f64 X Y] w (RetNumCE w 1 Cx.zero) := by
  by_cases h : xE X = 2047
  · exact rcomplex_bad1 X Y hX hY h w
  · exact rcomplex_bad2 X Y hX hY h (hE.resolve_left h) w
end Go.Proofs.YtgpmlhpgdalheaaGreat
