/- The reference: Add. Condition: at most 2^37 words each. The reference: Neg, Sub, Conj, Norm, Re, Im, Zero, IntCmp, Same, Sign, Side, Cmp, Div. Condition: at most 2^37 words each. -/
import Derived.Test.YtgpmlhpgdalheaaGreatRS
import Derived.RegionTactic
import Derived.Deep.DeepCutAuto
import Derived.Test.YtgpmlhpgdalheaaGreatRI
import Derived.Test.YtgpmlhpgdalheaaGreatLawA
namespace Go.Proofs.YtgpmlhpgdalheaaGreat
open Go.RowKit Pl
set_option linter.unusedVariables false
set_option linter.unusedSimpArgs false

/-- Two local integers that are not negative. -/
def TwoInt (W : World) (A B : Option Addr) (n m c d : Nat) (p q : Value) (wx : World) : Prop := ∃ g h, p = .pointer (some ⟨g, 0, none⟩) ∧ q = .pointer (some ⟨h, 0, none⟩) ∧
  (wx.cell? ⟨g, 0, none⟩ = some (.bool false) ∧ wx.cell? ⟨g, 1, none⟩ = some (.slice A n c)) ∧ (wx.cell? ⟨h, 0, none⟩ = some (.bool false) ∧ wx.cell? ⟨h, 1, none⟩ = some (.slice B m d)) ∧
  (W.heap.size ≤ g ∧ g < wx.heap.size) ∧ (W.heap.size ≤ h ∧ h < wx.heap.size) ∧ Below W.heap.size W wx
theorem twoInt_a (W : World) (A B : Option Addr) (n m c d : Nat) (T : TypeId) : TwoInt W A B n m c d (.pointer (some ⟨W.heap.size, 0, none⟩)) (.pointer (some ⟨W.heap.size + 1, 0, none⟩)) ((W.alloc (.cells #[.bool false, .slice A n c] T)).alloc (.cells #[.bool false, .slice B m d] T)).drew :=
  ⟨_, _, rfl, rfl, ⟨by go_simp, by go_simp⟩, ⟨by go_simp, by go_simp⟩, ⟨by omega, by show _ < ((W.alloc _).alloc _).heap.size; simp <;> omega⟩, ⟨by omega, by show _ < ((W.alloc _).alloc _).heap.size; simp <;> omega⟩, below_drewN (((Below.refl _ _).alloc (Nat.le_refl _) _).alloc (by simp) _) 1⟩
theorem twoInt_b (W : World) (A B : Option Addr) (n m c d : Nat) (T : TypeId) : TwoInt W A B n m c d (.pointer (some ⟨W.heap.size + 1, 0, none⟩)) (.pointer (some ⟨W.heap.size, 0, none⟩)) ((W.alloc (.cells #[.bool false, .slice B m d] T)).alloc (.cells #[.bool false, .slice A n c] T)).drew :=
  ⟨_, _, rfl, rfl, ⟨by go_simp, by go_simp⟩, ⟨by go_simp, by go_simp⟩, ⟨by omega, by show _ < ((W.alloc _).alloc _).heap.size; simp <;> omega⟩, ⟨by omega, by show _ < ((W.alloc _).alloc _).heap.size; simp <;> omega⟩, below_drewN (((Below.refl _ _).alloc (Nat.le_refl _) _).alloc (by simp) _) 1⟩

theorem rtimes_n (a : Int) (n : Nat) (A B : Option Addr) (cA cB : Nat) (w : World) (hx : Nat32 w A (ab a)) (hy : Nat32 w B n) (hbx : ln (ab a) ≤ 1099511627776) (hby : ln n ≤ 1099511627776) :
    Calls Tryz.prog 102 #[.agg #[.bool (sn a), .slice A (ln (ab a)) cA], .agg #[.bool false, .slice B (ln n) cB]] w (RetWholeC w (a * (n : Int))) := by
  have e : ab (n : Int) = n := by unfold ab; omega
  have e2 : sn (n : Int) = false := by unfold sn; rw [decide_eq_false_iff_not]; omega
  have h := rtimes_any a (n : Int) A B cA cB w hx (by rw [e]; exact hy) hbx (by rw [e]; exact hby)
  rwa [e, e2] at h
theorem ab_muln_ln {a : Int} {n K L : Nat} (ha : ln (ab a) ≤ K) (hn : ln n ≤ L) : ln (ab (a * (n : Int))) ≤ K + L := ab_mul_ln ha (b := (n : Int)) (by rw [show ab (n : Int) = n by unfold ab; omega]; exact hn)

set_option maxHeartbeats 4000000 in
theorem radd_any (x y : Cx) (A1 A2 A3 B1 B2 B3 : Option Addr) (cA1 cA2 cA3 cB1 cB2 cB3 : Nat) (w : World) (hx : Num3C w A1 A2 A3 x) (hy : Num3C w B1 B2 B3 y) (hsx : sz 137438953472 x) (hsy : sz 137438953472 y) :
    Calls Tryz.prog 27 #[.agg #[.bool (sn (na x)), .slice A1 (ln (ab (na x))) cA1, .bool (sn (nb x)), .slice A2 (ln (ab (nb x))) cA2, .slice A3 (ln (nd x)) cA3], .agg #[.bool (sn (na y)), .slice B1 (ln (ab (na y))) cB1, .bool (sn (nb y)), .slice B2 (ln (ab (nb y))) cB2, .slice B3 (ln (nd y)) cB3]] w (RetNumC w (x.add y)) := by
  obtain ⟨hx1, hx2, hx3⟩ := hx
  obtain ⟨hy1, hy2, hy3⟩ := hy
  have HSX := Lib.hid hsx
  have HSY := Lib.hid hsy
  clear hsx hsy
  rw [← add_fr]
  go_enter Tryz.func27, Tryz.ntmps27
  go_wp2_with fail
  obtain ⟨W, hW⟩ : ∃ W : World, W = (((w.alloc (.cells #[.bool (sn (na x)), .slice A1 (ln (ab (na x))) cA1, .bool (sn (nb x)), .slice A2 (ln (ab (nb x))) cA2, .slice A3 (ln (nd x)) cA3] 34)).alloc (.cells #[.bool (sn (na y)), .slice B1 (ln (ab (na y))) cB1, .bool (sn (nb y)), .slice B2 (ln (ab (nb y))) cB2, .slice B3 (ln (nd y)) cB3] 34)).alloc (.cells #[.bool false, .slice none 0 0, .bool false, .slice none 0 0, .slice none 0 0] 34)) := ⟨_, rfl⟩
  have s0_0 : W.cell? ⟨w.heap.size, 0, none⟩ = some (.bool (sn (na x))) := by subst hW; go_simp
  have s0_1 : W.cell? ⟨w.heap.size, 1, none⟩ = some (.slice A1 (ln (ab (na x))) cA1) := by subst hW; go_simp
  have s0_2 : W.cell? ⟨w.heap.size, 2, none⟩ = some (.bool (sn (nb x))) := by subst hW; go_simp
  have s0_3 : W.cell? ⟨w.heap.size, 3, none⟩ = some (.slice A2 (ln (ab (nb x))) cA2) := by subst hW; go_simp
  have s0_4 : W.cell? ⟨w.heap.size, 4, none⟩ = some (.slice A3 (ln (nd x)) cA3) := by subst hW; go_simp
  have s1_0 : W.cell? ⟨w.heap.size + 1, 0, none⟩ = some (.bool (sn (na y))) := by subst hW; go_simp
  have s1_1 : W.cell? ⟨w.heap.size + 1, 1, none⟩ = some (.slice B1 (ln (ab (na y))) cB1) := by subst hW; go_simp
  have s1_2 : W.cell? ⟨w.heap.size + 1, 2, none⟩ = some (.bool (sn (nb y))) := by subst hW; go_simp
  have s1_3 : W.cell? ⟨w.heap.size + 1, 3, none⟩ = some (.slice B2 (ln (ab (nb y))) cB2) := by subst hW; go_simp
  have s1_4 : W.cell? ⟨w.heap.size + 1, 4, none⟩ = some (.slice B3 (ln (nd y)) cB3) := by subst hW; go_simp
  have r0 : W.cell? ⟨w.heap.size + 1 + 1, 0, none⟩ = some (.bool false) := by subst hW; go_simp
  have f0 : W.frozen? ⟨w.heap.size + 1 + 1, 0, none⟩ = false := by subst hW; go_simp
  have r1 : W.cell? ⟨w.heap.size + 1 + 1, 1, none⟩ = some (.slice none 0 0) := by subst hW; go_simp
  have f1 : W.frozen? ⟨w.heap.size + 1 + 1, 1, none⟩ = false := by subst hW; go_simp
  have r2 : W.cell? ⟨w.heap.size + 1 + 1, 2, none⟩ = some (.bool false) := by subst hW; go_simp
  have f2 : W.frozen? ⟨w.heap.size + 1 + 1, 2, none⟩ = false := by subst hW; go_simp
  have r3 : W.cell? ⟨w.heap.size + 1 + 1, 3, none⟩ = some (.slice none 0 0) := by subst hW; go_simp
  have f3 : W.frozen? ⟨w.heap.size + 1 + 1, 3, none⟩ = false := by subst hW; go_simp
  have r4 : W.cell? ⟨w.heap.size + 1 + 1, 4, none⟩ = some (.slice none 0 0) := by subst hW; go_simp
  have f4 : W.frozen? ⟨w.heap.size + 1 + 1, 4, none⟩ = false := by subst hW; go_simp
  have HW : Below w.heap.size w W := by subst hW; exact ((((Below.refl w.heap.size w).alloc (Nat.le_refl _) _).alloc (by simp) _).alloc (by simp; omega) _)
  have l0 : w.heap.size < W.heap.size := by subst hW; simp <;> omega
  have l1 : w.heap.size + 1 < W.heap.size := by subst hW; simp <;> omega
  have l2 : w.heap.size + 1 + 1 < W.heap.size := by subst hW; simp
  have n0 : w.heap.size ≠ w.heap.size + 1 + 1 := by omega
  have n1 : w.heap.size + 1 ≠ w.heap.size + 1 + 1 := by omega
  replace hx1 := hx1.to HW
  replace hx2 := hx2.to HW
  replace hx3 := hx3.to HW
  replace hy1 := hy1.to HW
  replace hy2 := hy2.to HW
  replace hy3 := hy3.to HW
  rw [← hW]
  clear hW
  replace HW := Lib.hid HW
  go_upto_region 1 with fail
  go_cut [5, 6] (fun p q wx => TwoInt W A3 B3 (ln (nd x)) (ln (nd y)) cA3 cB3 p q wx)
  case first =>
    go_region
    all_goals (go_wp2_with fail; go_meet; first | exact twoInt_a _ _ _ _ _ _ _ _ | exact twoInt_b _ _ _ _ _ _ _ _)
  case rest =>
  obtain ⟨g0, g1, hp0, hp1, ⟨t0_0, t0_1⟩, ⟨t1_0, t1_1⟩, ⟨hg0, l100⟩, ⟨hg1, l101⟩, hb1⟩ := hcut
  subst hp0 hp1
  have n100 : g0 ≠ w.heap.size + 1 + 1 := by omega
  have n101 : g1 ≠ w.heap.size + 1 + 1 := by omega
  obtain ⟨w1, rfl⟩ : ∃ X : World, X = wc := ⟨_, rfl⟩
  replace s0_0 := keepc hb1 s0_0 l0
  replace s0_1 := keepc hb1 s0_1 l0
  replace s0_2 := keepc hb1 s0_2 l0
  replace s0_3 := keepc hb1 s0_3 l0
  replace s0_4 := keepc hb1 s0_4 l0
  replace s1_0 := keepc hb1 s1_0 l1
  replace s1_1 := keepc hb1 s1_1 l1
  replace s1_2 := keepc hb1 s1_2 l1
  replace s1_3 := keepc hb1 s1_3 l1
  replace s1_4 := keepc hb1 s1_4 l1
  replace r0 := keepc hb1 r0 l2
  replace f0 := keepf hb1 f0 l2
  replace r1 := keepc hb1 r1 l2
  replace f1 := keepf hb1 f1 l2
  replace r2 := keepc hb1 r2 l2
  replace f2 := keepf hb1 f2 l2
  replace r3 := keepc hb1 r3 l2
  replace f3 := keepf hb1 f3 l2
  replace r4 := keepc hb1 r4 l2
  replace f4 := keepf hb1 f4 l2
  replace l0 := Nat.lt_of_lt_of_le l0 hb1.size
  replace l1 := Nat.lt_of_lt_of_le l1 hb1.size
  replace l2 := Nat.lt_of_lt_of_le l2 hb1.size
  replace hx1 := hx1.to hb1
  replace hx2 := hx2.to hb1
  replace hx3 := hx3.to hb1
  replace hy1 := hy1.to hb1
  replace hy2 := hy2.to hb1
  replace hy3 := hy3.to hb1
  replace HW := Lib.hid (hstep HW hb1)
  clear hb1
  go_wp2_with fail
  go_region_held3 (fun w' => w'.cell? ⟨w.heap.size, 0, none⟩ = some (.bool (sn (na x))) ∧ w'.cell? ⟨w.heap.size, 1, none⟩ = some (.slice A1 (ln (ab (na x))) cA1) ∧ w'.cell? ⟨w.heap.size, 2, none⟩ = some (.bool (sn (nb x))) ∧ w'.cell? ⟨w.heap.size, 3, none⟩ = some (.slice A2 (ln (ab (nb x))) cA2) ∧ w'.cell? ⟨w.heap.size, 4, none⟩ = some (.slice A3 (ln (nd x)) cA3) ∧ w'.cell? ⟨w.heap.size + 1, 0, none⟩ = some (.bool (sn (na y))) ∧ w'.cell? ⟨w.heap.size + 1, 1, none⟩ = some (.slice B1 (ln (ab (na y))) cB1) ∧ w'.cell? ⟨w.heap.size + 1, 2, none⟩ = some (.bool (sn (nb y))) ∧ w'.cell? ⟨w.heap.size + 1, 3, none⟩ = some (.slice B2 (ln (ab (nb y))) cB2) ∧ w'.cell? ⟨w.heap.size + 1, 4, none⟩ = some (.slice B3 (ln (nd y)) cB3) ∧ w'.cell? ⟨g0, 0, none⟩ = some (.bool false) ∧ w'.cell? ⟨g0, 1, none⟩ = some (.slice A3 (ln (nd x)) cA3) ∧ w'.cell? ⟨g1, 0, none⟩ = some (.bool false) ∧ w'.cell? ⟨g1, 1, none⟩ = some (.slice B3 (ln (nd y)) cB3)) (first | with_reducible exact ⟨s0_0, s0_1, s0_2, s0_3, s0_4, s1_0, s1_1, s1_2, s1_3, s1_4, t0_0, t0_1, t1_0, t1_1⟩ | with_reducible exact ⟨(keeps (keeps (keeps (keeps (keeps s0_0 n0) n0) n0) n0) n0), (keeps (keeps (keeps (keeps (keeps s0_1 n0) n0) n0) n0) n0), (keeps (keeps (keeps (keeps (keeps s0_2 n0) n0) n0) n0) n0), (keeps (keeps (keeps (keeps (keeps s0_3 n0) n0) n0) n0) n0), (keeps (keeps (keeps (keeps (keeps s0_4 n0) n0) n0) n0) n0), (keeps (keeps (keeps (keeps (keeps s1_0 n1) n1) n1) n1) n1), (keeps (keeps (keeps (keeps (keeps s1_1 n1) n1) n1) n1) n1), (keeps (keeps (keeps (keeps (keeps s1_2 n1) n1) n1) n1) n1), (keeps (keeps (keeps (keeps (keeps s1_3 n1) n1) n1) n1) n1), (keeps (keeps (keeps (keeps (keeps s1_4 n1) n1) n1) n1) n1), (keeps (keeps (keeps (keeps (keeps t0_0 n100) n100) n100) n100) n100), (keeps (keeps (keeps (keeps (keeps t0_1 n100) n100) n100) n100) n100), (keeps (keeps (keeps (keeps (keeps t1_0 n101) n101) n101) n101) n101), (keeps (keeps (keeps (keeps (keeps t1_1 n101) n101) n101) n101) n101)⟩ | exact ⟨s0_0, s0_1, s0_2, s0_3, s0_4, s1_0, s1_1, s1_2, s1_3, s1_4, t0_0, t0_1, t1_0, t1_1⟩) (first
    | (have _ := mk6; go_at_call 100; refine (rmake_any (na x * (nd y : Int) + na y * (nd x : Int)) (nb x * (nd y : Int) + nb y * (nd x : Int)) (nd x * nd y) S3 S6 S7 d3 d6 d7 _ (by exact h3) (by exact h6) (by exact h7) (by have h := (ab_add_ln (K := 274877906944) (Nat.le_trans (ab_muln_ln HSX.out.1 HSY.out.2.2) (by omega)) (Nat.le_trans (ab_muln_ln HSY.out.1 HSX.out.2.2) (by omega))); have h3 := HSX.out; have h4 := HSY.out; unfold sz at h3 h4; omega) (by have h := (ab_add_ln (K := 274877906944) (Nat.le_trans (ab_muln_ln HSX.out.2.1 HSY.out.2.2) (by omega)) (Nat.le_trans (ab_muln_ln HSY.out.2.1 HSX.out.2.2) (by omega))); have h3 := HSX.out; have h4 := HSY.out; unfold sz at h3 h4; omega) (by have h := (nat_mul_ln HSX.out.2.2 HSY.out.2.2); have h3 := HSX.out; have h4 := HSY.out; unfold sz at h3 h4; omega) (Nat.mul_ne_zero (nd_ne0 x) (nd_ne0 y))).mono ?_; rintro e w9 ⟨Z1, Z2, Z3, cZ1, cZ2, cZ3, rfl, h8, hb9⟩; replace s0_0 := keepc hb9 s0_0 l0; replace s0_1 := keepc hb9 s0_1 l0; replace s0_2 := keepc hb9 s0_2 l0; replace s0_3 := keepc hb9 s0_3 l0; replace s0_4 := keepc hb9 s0_4 l0; replace s1_0 := keepc hb9 s1_0 l1; replace s1_1 := keepc hb9 s1_1 l1; replace s1_2 := keepc hb9 s1_2 l1; replace s1_3 := keepc hb9 s1_3 l1; replace s1_4 := keepc hb9 s1_4 l1; replace t0_0 := keepc hb9 t0_0 l100; replace t0_1 := keepc hb9 t0_1 l100; replace t1_0 := keepc hb9 t1_0 l101; replace t1_1 := keepc hb9 t1_1 l101; replace r0 := keepc hb9 r0 l2; replace f0 := keepf hb9 f0 l2; replace r1 := keepc hb9 r1 l2; replace f1 := keepf hb9 f1 l2; replace r2 := keepc hb9 r2 l2; replace f2 := keepf hb9 f2 l2; replace r3 := keepc hb9 r3 l2; replace f3 := keepf hb9 f3 l2; replace r4 := keepc hb9 r4 l2; replace f4 := keepf hb9 f4 l2; replace l0 := Nat.lt_of_lt_of_le l0 hb9.size; replace l1 := Nat.lt_of_lt_of_le l1 hb9.size; replace l2 := Nat.lt_of_lt_of_le l2 hb9.size; replace l100 := Nat.lt_of_lt_of_le l100 hb9.size; replace l101 := Nat.lt_of_lt_of_le l101 hb9.size; replace hx1 := hx1.to hb9; replace hx2 := hx2.to hb9; replace hx3 := hx3.to hb9; replace hy1 := hy1.to hb9; replace hy2 := hy2.to hb9; replace hy3 := hy3.to hb9; replace h1 := h1.to hb9; replace h2 := h2.to hb9; replace h3 := h3.to hb9; replace h4 := h4.to hb9; replace h5 := h5.to hb9; replace h6 := h6.to hb9; replace h7 := h7.to hb9; replace HW := Lib.hid (hstep HW hb9); clear hb9; have mk7 : True := trivial)
    | (have _ := mk5; go_at_call 103; refine (rnatMul_any (nd x) (nd y) A3 B3 cA3 cB3 _ (by exact hx3) (by exact hy3) (by have := HSX.out; unfold sz at this; omega) (by have := HSY.out; unfold sz at this; omega)).mono ?_; rintro e w8 ⟨S7, d7, rfl, h7, hb8⟩; replace s0_0 := keepc hb8 s0_0 l0; replace s0_1 := keepc hb8 s0_1 l0; replace s0_2 := keepc hb8 s0_2 l0; replace s0_3 := keepc hb8 s0_3 l0; replace s0_4 := keepc hb8 s0_4 l0; replace s1_0 := keepc hb8 s1_0 l1; replace s1_1 := keepc hb8 s1_1 l1; replace s1_2 := keepc hb8 s1_2 l1; replace s1_3 := keepc hb8 s1_3 l1; replace s1_4 := keepc hb8 s1_4 l1; replace t0_0 := keepc hb8 t0_0 l100; replace t0_1 := keepc hb8 t0_1 l100; replace t1_0 := keepc hb8 t1_0 l101; replace t1_1 := keepc hb8 t1_1 l101; replace r0 := keepc hb8 r0 l2; replace f0 := keepf hb8 f0 l2; replace r1 := keepc hb8 r1 l2; replace f1 := keepf hb8 f1 l2; replace r2 := keepc hb8 r2 l2; replace f2 := keepf hb8 f2 l2; replace r3 := keepc hb8 r3 l2; replace f3 := keepf hb8 f3 l2; replace r4 := keepc hb8 r4 l2; replace f4 := keepf hb8 f4 l2; replace l0 := Nat.lt_of_lt_of_le l0 hb8.size; replace l1 := Nat.lt_of_lt_of_le l1 hb8.size; replace l2 := Nat.lt_of_lt_of_le l2 hb8.size; replace l100 := Nat.lt_of_lt_of_le l100 hb8.size; replace l101 := Nat.lt_of_lt_of_le l101 hb8.size; replace hx1 := hx1.to hb8; replace hx2 := hx2.to hb8; replace hx3 := hx3.to hb8; replace hy1 := hy1.to hb8; replace hy2 := hy2.to hb8; replace hy3 := hy3.to hb8; replace h1 := h1.to hb8; replace h2 := h2.to hb8; replace h3 := h3.to hb8; replace h4 := h4.to hb8; replace h5 := h5.to hb8; replace h6 := h6.to hb8; replace HW := Lib.hid (hstep HW hb8); clear hb8; have mk6 : True := trivial)
    | (have _ := mk4; go_at_call 101; refine (rplus_any (nb x * (nd y : Int)) (nb y * (nd x : Int)) S4 S5 d4 d5 _ (by exact h4) (by exact h5) (by have h := ((ab_muln_ln HSX.out.2.1 HSY.out.2.2)); have h3 := HSX.out; have h4 := HSY.out; unfold sz at h3 h4; omega) (by have h := ((ab_muln_ln HSY.out.2.1 HSX.out.2.2)); have h3 := HSX.out; have h4 := HSY.out; unfold sz at h3 h4; omega)).mono ?_; rintro e w7 ⟨S6, d6, rfl, h6, hb7⟩; replace s0_0 := keepc hb7 s0_0 l0; replace s0_1 := keepc hb7 s0_1 l0; replace s0_2 := keepc hb7 s0_2 l0; replace s0_3 := keepc hb7 s0_3 l0; replace s0_4 := keepc hb7 s0_4 l0; replace s1_0 := keepc hb7 s1_0 l1; replace s1_1 := keepc hb7 s1_1 l1; replace s1_2 := keepc hb7 s1_2 l1; replace s1_3 := keepc hb7 s1_3 l1; replace s1_4 := keepc hb7 s1_4 l1; replace t0_0 := keepc hb7 t0_0 l100; replace t0_1 := keepc hb7 t0_1 l100; replace t1_0 := keepc hb7 t1_0 l101; replace t1_1 := keepc hb7 t1_1 l101; replace r0 := keepc hb7 r0 l2; replace f0 := keepf hb7 f0 l2; replace r1 := keepc hb7 r1 l2; replace f1 := keepf hb7 f1 l2; replace r2 := keepc hb7 r2 l2; replace f2 := keepf hb7 f2 l2; replace r3 := keepc hb7 r3 l2; replace f3 := keepf hb7 f3 l2; replace r4 := keepc hb7 r4 l2; replace f4 := keepf hb7 f4 l2; replace l0 := Nat.lt_of_lt_of_le l0 hb7.size; replace l1 := Nat.lt_of_lt_of_le l1 hb7.size; replace l2 := Nat.lt_of_lt_of_le l2 hb7.size; replace l100 := Nat.lt_of_lt_of_le l100 hb7.size; replace l101 := Nat.lt_of_lt_of_le l101 hb7.size; replace hx1 := hx1.to hb7; replace hx2 := hx2.to hb7; replace hx3 := hx3.to hb7; replace hy1 := hy1.to hb7; replace hy2 := hy2.to hb7; replace hy3 := hy3.to hb7; replace h1 := h1.to hb7; replace h2 := h2.to hb7; replace h3 := h3.to hb7; replace h4 := h4.to hb7; replace h5 := h5.to hb7; replace HW := Lib.hid (hstep HW hb7); clear hb7; have mk5 : True := trivial)
    | (have _ := mk3; go_at_call 102; refine (rtimes_n (nb y) (nd x) B2 A3 cB2 cA3 _ (by exact hy2) (by exact hx3) (by have := HSY.out; unfold sz at this; omega) (by have := HSX.out; unfold sz at this; omega)).mono ?_; rintro e w6 ⟨S5, d5, rfl, h5, hb6⟩; replace s0_0 := keepc hb6 s0_0 l0; replace s0_1 := keepc hb6 s0_1 l0; replace s0_2 := keepc hb6 s0_2 l0; replace s0_3 := keepc hb6 s0_3 l0; replace s0_4 := keepc hb6 s0_4 l0; replace s1_0 := keepc hb6 s1_0 l1; replace s1_1 := keepc hb6 s1_1 l1; replace s1_2 := keepc hb6 s1_2 l1; replace s1_3 := keepc hb6 s1_3 l1; replace s1_4 := keepc hb6 s1_4 l1; replace t0_0 := keepc hb6 t0_0 l100; replace t0_1 := keepc hb6 t0_1 l100; replace t1_0 := keepc hb6 t1_0 l101; replace t1_1 := keepc hb6 t1_1 l101; replace r0 := keepc hb6 r0 l2; replace f0 := keepf hb6 f0 l2; replace r1 := keepc hb6 r1 l2; replace f1 := keepf hb6 f1 l2; replace r2 := keepc hb6 r2 l2; replace f2 := keepf hb6 f2 l2; replace r3 := keepc hb6 r3 l2; replace f3 := keepf hb6 f3 l2; replace r4 := keepc hb6 r4 l2; replace f4 := keepf hb6 f4 l2; replace l0 := Nat.lt_of_lt_of_le l0 hb6.size; replace l1 := Nat.lt_of_lt_of_le l1 hb6.size; replace l2 := Nat.lt_of_lt_of_le l2 hb6.size; replace l100 := Nat.lt_of_lt_of_le l100 hb6.size; replace l101 := Nat.lt_of_lt_of_le l101 hb6.size; replace hx1 := hx1.to hb6; replace hx2 := hx2.to hb6; replace hx3 := hx3.to hb6; replace hy1 := hy1.to hb6; replace hy2 := hy2.to hb6; replace hy3 := hy3.to hb6; replace h1 := h1.to hb6; replace h2 := h2.to hb6; replace h3 := h3.to hb6; replace h4 := h4.to hb6; replace HW := Lib.hid (hstep HW hb6); clear hb6; have mk4 : True := trivial)
    | (have _ := mk2; go_at_call 102; refine (rtimes_n (nb x) (nd y) A2 B3 cA2 cB3 _ (by exact hx2) (by exact hy3) (by have := HSX.out; unfold sz at this; omega) (by have := HSY.out; unfold sz at this; omega)).mono ?_; rintro e w5 ⟨S4, d4, rfl, h4, hb5⟩; replace s0_0 := keepc hb5 s0_0 l0; replace s0_1 := keepc hb5 s0_1 l0; replace s0_2 := keepc hb5 s0_2 l0; replace s0_3 := keepc hb5 s0_3 l0; replace s0_4 := keepc hb5 s0_4 l0; replace s1_0 := keepc hb5 s1_0 l1; replace s1_1 := keepc hb5 s1_1 l1; replace s1_2 := keepc hb5 s1_2 l1; replace s1_3 := keepc hb5 s1_3 l1; replace s1_4 := keepc hb5 s1_4 l1; replace t0_0 := keepc hb5 t0_0 l100; replace t0_1 := keepc hb5 t0_1 l100; replace t1_0 := keepc hb5 t1_0 l101; replace t1_1 := keepc hb5 t1_1 l101; replace r0 := keepc hb5 r0 l2; replace f0 := keepf hb5 f0 l2; replace r1 := keepc hb5 r1 l2; replace f1 := keepf hb5 f1 l2; replace r2 := keepc hb5 r2 l2; replace f2 := keepf hb5 f2 l2; replace r3 := keepc hb5 r3 l2; replace f3 := keepf hb5 f3 l2; replace r4 := keepc hb5 r4 l2; replace f4 := keepf hb5 f4 l2; replace l0 := Nat.lt_of_lt_of_le l0 hb5.size; replace l1 := Nat.lt_of_lt_of_le l1 hb5.size; replace l2 := Nat.lt_of_lt_of_le l2 hb5.size; replace l100 := Nat.lt_of_lt_of_le l100 hb5.size; replace l101 := Nat.lt_of_lt_of_le l101 hb5.size; replace hx1 := hx1.to hb5; replace hx2 := hx2.to hb5; replace hx3 := hx3.to hb5; replace hy1 := hy1.to hb5; replace hy2 := hy2.to hb5; replace hy3 := hy3.to hb5; replace h1 := h1.to hb5; replace h2 := h2.to hb5; replace h3 := h3.to hb5; replace HW := Lib.hid (hstep HW hb5); clear hb5; have mk3 : True := trivial)
    | (have _ := mk1; go_at_call 101; refine (rplus_any (na x * (nd y : Int)) (na y * (nd x : Int)) S1 S2 d1 d2 _ (by exact h1) (by exact h2) (by have h := ((ab_muln_ln HSX.out.1 HSY.out.2.2)); have h3 := HSX.out; have h4 := HSY.out; unfold sz at h3 h4; omega) (by have h := ((ab_muln_ln HSY.out.1 HSX.out.2.2)); have h3 := HSX.out; have h4 := HSY.out; unfold sz at h3 h4; omega)).mono ?_; rintro e w4 ⟨S3, d3, rfl, h3, hb4⟩; replace s0_0 := keepc hb4 s0_0 l0; replace s0_1 := keepc hb4 s0_1 l0; replace s0_2 := keepc hb4 s0_2 l0; replace s0_3 := keepc hb4 s0_3 l0; replace s0_4 := keepc hb4 s0_4 l0; replace s1_0 := keepc hb4 s1_0 l1; replace s1_1 := keepc hb4 s1_1 l1; replace s1_2 := keepc hb4 s1_2 l1; replace s1_3 := keepc hb4 s1_3 l1; replace s1_4 := keepc hb4 s1_4 l1; replace t0_0 := keepc hb4 t0_0 l100; replace t0_1 := keepc hb4 t0_1 l100; replace t1_0 := keepc hb4 t1_0 l101; replace t1_1 := keepc hb4 t1_1 l101; replace r0 := keepc hb4 r0 l2; replace f0 := keepf hb4 f0 l2; replace r1 := keepc hb4 r1 l2; replace f1 := keepf hb4 f1 l2; replace r2 := keepc hb4 r2 l2; replace f2 := keepf hb4 f2 l2; replace r3 := keepc hb4 r3 l2; replace f3 := keepf hb4 f3 l2; replace r4 := keepc hb4 r4 l2; replace f4 := keepf hb4 f4 l2; replace l0 := Nat.lt_of_lt_of_le l0 hb4.size; replace l1 := Nat.lt_of_lt_of_le l1 hb4.size; replace l2 := Nat.lt_of_lt_of_le l2 hb4.size; replace l100 := Nat.lt_of_lt_of_le l100 hb4.size; replace l101 := Nat.lt_of_lt_of_le l101 hb4.size; replace hx1 := hx1.to hb4; replace hx2 := hx2.to hb4; replace hx3 := hx3.to hb4; replace hy1 := hy1.to hb4; replace hy2 := hy2.to hb4; replace hy3 := hy3.to hb4; replace h1 := h1.to hb4; replace h2 := h2.to hb4; replace HW := Lib.hid (hstep HW hb4); clear hb4; have mk2 : True := trivial)
    | (have _ := mk0; go_at_call 102; refine (rtimes_n (na y) (nd x) B1 A3 cB1 cA3 _ (by exact hy1) (by exact hx3) (by have := HSY.out; unfold sz at this; omega) (by have := HSX.out; unfold sz at this; omega)).mono ?_; rintro e w3 ⟨S2, d2, rfl, h2, hb3⟩; replace s0_0 := keepc hb3 s0_0 l0; replace s0_1 := keepc hb3 s0_1 l0; replace s0_2 := keepc hb3 s0_2 l0; replace s0_3 := keepc hb3 s0_3 l0; replace s0_4 := keepc hb3 s0_4 l0; replace s1_0 := keepc hb3 s1_0 l1; replace s1_1 := keepc hb3 s1_1 l1; replace s1_2 := keepc hb3 s1_2 l1; replace s1_3 := keepc hb3 s1_3 l1; replace s1_4 := keepc hb3 s1_4 l1; replace t0_0 := keepc hb3 t0_0 l100; replace t0_1 := keepc hb3 t0_1 l100; replace t1_0 := keepc hb3 t1_0 l101; replace t1_1 := keepc hb3 t1_1 l101; replace r0 := keepc hb3 r0 l2; replace f0 := keepf hb3 f0 l2; replace r1 := keepc hb3 r1 l2; replace f1 := keepf hb3 f1 l2; replace r2 := keepc hb3 r2 l2; replace f2 := keepf hb3 f2 l2; replace r3 := keepc hb3 r3 l2; replace f3 := keepf hb3 f3 l2; replace r4 := keepc hb3 r4 l2; replace f4 := keepf hb3 f4 l2; replace l0 := Nat.lt_of_lt_of_le l0 hb3.size; replace l1 := Nat.lt_of_lt_of_le l1 hb3.size; replace l2 := Nat.lt_of_lt_of_le l2 hb3.size; replace l100 := Nat.lt_of_lt_of_le l100 hb3.size; replace l101 := Nat.lt_of_lt_of_le l101 hb3.size; replace hx1 := hx1.to hb3; replace hx2 := hx2.to hb3; replace hx3 := hx3.to hb3; replace hy1 := hy1.to hb3; replace hy2 := hy2.to hb3; replace hy3 := hy3.to hb3; replace h1 := h1.to hb3; replace HW := Lib.hid (hstep HW hb3); clear hb3; have mk1 : True := trivial)
    | (go_at_call 102; refine (rtimes_n (na x) (nd y) A1 B3 cA1 cB3 _ (by exact hx1) (by exact hy3) (by have := HSX.out; unfold sz at this; omega) (by have := HSY.out; unfold sz at this; omega)).mono ?_; rintro e w2 ⟨S1, d1, rfl, h1, hb2⟩; have hb2 := undrew hb2; replace s0_0 := keepc hb2 s0_0 l0; replace s0_1 := keepc hb2 s0_1 l0; replace s0_2 := keepc hb2 s0_2 l0; replace s0_3 := keepc hb2 s0_3 l0; replace s0_4 := keepc hb2 s0_4 l0; replace s1_0 := keepc hb2 s1_0 l1; replace s1_1 := keepc hb2 s1_1 l1; replace s1_2 := keepc hb2 s1_2 l1; replace s1_3 := keepc hb2 s1_3 l1; replace s1_4 := keepc hb2 s1_4 l1; replace t0_0 := keepc hb2 t0_0 l100; replace t0_1 := keepc hb2 t0_1 l100; replace t1_0 := keepc hb2 t1_0 l101; replace t1_1 := keepc hb2 t1_1 l101; replace r0 := keepc hb2 r0 l2; replace f0 := keepf hb2 f0 l2; replace r1 := keepc hb2 r1 l2; replace f1 := keepf hb2 f1 l2; replace r2 := keepc hb2 r2 l2; replace f2 := keepf hb2 f2 l2; replace r3 := keepc hb2 r3 l2; replace f3 := keepf hb2 f3 l2; replace r4 := keepc hb2 r4 l2; replace f4 := keepf hb2 f4 l2; replace l0 := Nat.lt_of_lt_of_le l0 hb2.size; replace l1 := Nat.lt_of_lt_of_le l1 hb2.size; replace l2 := Nat.lt_of_lt_of_le l2 hb2.size; replace l100 := Nat.lt_of_lt_of_le l100 hb2.size; replace l101 := Nat.lt_of_lt_of_le l101 hb2.size; replace hx1 := hx1.to hb2; replace hx2 := hx2.to hb2; replace hx3 := hx3.to hb2; replace hy1 := hy1.to hb2; replace hy2 := hy2.to hb2; replace hy3 := hy3.to hb2; replace HW := Lib.hid (hstep HW hb2); clear hb2; have mk0 : True := trivial))
  go_wp2_with fail
  exact bodyPost_ret (v := .agg #[.bool (sn (na (fr (na x * (nd y : Int) + na y * (nd x : Int)) (nb x * (nd y : Int) + nb y * (nd x : Int)) (nd x * nd y)))), .slice Z1 (ln (ab (na (fr (na x * (nd y : Int) + na y * (nd x : Int)) (nb x * (nd y : Int) + nb y * (nd x : Int)) (nd x * nd y))))) cZ1, .bool (sn (nb (fr (na x * (nd y : Int) + na y * (nd x : Int)) (nb x * (nd y : Int) + nb y * (nd x : Int)) (nd x * nd y)))), .slice Z2 (ln (ab (nb (fr (na x * (nd y : Int) + na y * (nd x : Int)) (nb x * (nd y : Int) + nb y * (nd x : Int)) (nd x * nd y))))) cZ2, .slice Z3 (ln (nd (fr (na x * (nd y : Int) + na y * (nd x : Int)) (nb x * (nd y : Int) + nb y * (nd x : Int)) (nd x * nd y)))) cZ3]) (by simp [results, Tryz.results27, go_sem, r0, r1, r2, r3, r4, f0, f1, f2, f3, f4]) rfl (retNumC_fin HW h8 (by omega) r0)

theorem rmake_re (z : Int) (d : Nat) (A D : Option Addr) (cA cD : Nat) (w : World) (hx : Nat32 w A (ab z)) (hd : Nat32 w D d) (hbx : ln (ab z) ≤ 1099511627776) (hbd : ln d ≤ 1099511627776) (hd0 : d ≠ 0) :
    Calls Tryz.prog 100 #[.agg #[.bool (sn z), .slice A (ln (ab z)) cA], .agg #[.bool false, .slice none 0 0], .slice D (ln d) cD] w (RetNumC w (fr z 0 d)) := by
  have h := rmake_any z 0 d A none D cA 0 cD w hx (Nat32.zero _ _) hd hbx (by show ln 0 ≤ _; rw [ln_zero]; omega) hbd hd0
  rw [show ab 0 = 0 from rfl, ln_zero, show sn 0 = false from rfl] at h
  exact h
theorem rmake_im (z : Int) (d : Nat) (A D : Option Addr) (cA cD : Nat) (w : World) (hx : Nat32 w A (ab z)) (hd : Nat32 w D d) (hbx : ln (ab z) ≤ 1099511627776) (hbd : ln d ≤ 1099511627776) (hd0 : d ≠ 0) :
    Calls Tryz.prog 100 #[.agg #[.bool false, .slice none 0 0], .agg #[.bool (sn z), .slice A (ln (ab z)) cA], .slice D (ln d) cD] w (RetNumC w (fr 0 z d)) := by
  have h := rmake_any 0 z d none A D 0 cA cD w (Nat32.zero _ _) hx hd (by show ln 0 ≤ _; rw [ln_zero]; omega) hbx hbd hd0
  rw [show ab 0 = 0 from rfl, ln_zero, show sn 0 = false from rfl] at h
  exact h

end Go.Proofs.YtgpmlhpgdalheaaGreat

namespace Go.Proofs.YtgpmlhpgdalheaaGreat
open Go.RowKit Pl
set_option linter.unusedVariables false
set_option linter.unusedSimpArgs false

theorem Num3C.mk' {w : World} {A1 A2 A3 : Option Addr} {q : Cx} (h1 : Nat32 w A1 (ab (na q))) (h2 : Nat32 w A2 (ab (nb q))) (h3 : Nat32 w A3 (nd q)) : Num3C w A1 A2 A3 q := ⟨h1, h2, h3⟩
theorem Num3C.as {w : World} {A1 A2 A3 : Option Addr} {q : Cx} {a b : Int} {d : Nat} (h : na q = a ∧ nb q = b ∧ nd q = d) (h1 : Nat32 w A1 (ab a)) (h2 : Nat32 w A2 (ab b)) (h3 : Nat32 w A3 d) : Num3C w A1 A2 A3 q := by
  obtain ⟨rfl, rfl, rfl⟩ := h; exact ⟨h1, h2, h3⟩
theorem rintNeg_z {z y : Int} (hz : y = -z) (A : Option Addr) (cA : Nat) (w : World) (hx : Nat32 w A (ab z)) :
    Calls Tryz.prog 107 #[.agg #[.bool (sn z), .slice A (ln (ab z)) cA]] w (RetWholeC w y) := by rw [hz]; exact rintNeg_any z A cA w hx
theorem num3C_alloc {w : World} {A1 A2 A3 : Option Addr} {q : Cx} {o : Obj} (h : Num3C w A1 A2 A3 q) : Num3C (w.alloc o) A1 A2 A3 q := ⟨h.1.alloc _, h.2.1.alloc _, h.2.2.alloc _⟩
theorem norm_conj (x : Cx) : x.mul x.conj = x.norm := by
  apply Cx.ext' <;> simp only [Cx.mul, Cx.conj, Cx.norm, Cx.nrm] <;> grind
/-- A local variable that holds a number of the reference. -/
def VarNumC (W : World) (q : Cx) (p : Value) (wx : World) : Prop := ∃ g A1 A2 A3 k1 k2 k3, p = .pointer (some ⟨g, 0, none⟩) ∧ (wx.cell? ⟨g, 0, none⟩ = some (.bool (sn (na q))) ∧ wx.cell? ⟨g, 1, none⟩ = some (.slice A1 (ln (ab (na q))) k1) ∧ wx.cell? ⟨g, 2, none⟩ = some (.bool (sn (nb q))) ∧ wx.cell? ⟨g, 3, none⟩ = some (.slice A2 (ln (ab (nb q))) k2) ∧ wx.cell? ⟨g, 4, none⟩ = some (.slice A3 (ln (nd q)) k3)) ∧ Num3C wx A1 A2 A3 q ∧ W.heap.size ≤ g ∧ g < wx.heap.size ∧ Below W.heap.size W wx
theorem varNumC_set {W wn : World} {q : Cx} {g B k1 k2 k3 : Nat} {A1 A2 A3 : Option Addr} (K : Below W.heap.size W wn) (n : NewVarN B g wn) (hg : W.heap.size ≤ g) (h : Num3C wn A1 A2 A3 q) :
    VarNumC W q (.pointer (some ⟨g, 0, none⟩)) (((((wn.setCell ⟨g, 0, none⟩ (.bool (sn (na q)))).setCell ⟨g, 1, none⟩ (.slice A1 (ln (ab (na q))) k1)).setCell ⟨g, 2, none⟩ (.bool (sn (nb q)))).setCell ⟨g, 3, none⟩ (.slice A2 (ln (ab (nb q))) k2)).setCell ⟨g, 4, none⟩ (.slice A3 (ln (nd q)) k3)) := by
  obtain ⟨_, hl, ⟨c0, c1, c2, c3, c4⟩, _⟩ := n
  obtain ⟨D1, D2, D3, j1, j2, j3, e, h3, hb⟩ := retNumC_fin (q := q) (A1 := A1) (A2 := A2) (A3 := A3) (d1 := k1) (d2 := k2) (d3 := k3) (Lib.hid K) h hg c0
  injection e with e
  simp only [Value.agg.injEq, Array.mk.injEq, List.cons.injEq, Value.slice.injEq, and_true, true_and] at e
  obtain ⟨⟨rfl, rfl⟩, ⟨rfl, rfl⟩, rfl, rfl⟩ := e
  have o0 := cell_self (u := .bool (sn (na q))) c0
  refine ⟨g, A1, A2, A3, k1, k2, k3, rfl, ⟨?_, ?_, ?_, ?_, ?_⟩, h3, hg, by simpa [World.setCell] using hl, hb⟩
  · exact keepo (keepo (keepo (keepo o0 (by omega)) (by omega)) (by omega)) (by omega)
  · exact keepo (keepo (keepo (cell_self (keepo c1 (by omega))) (by omega)) (by omega)) (by omega)
  · exact keepo (keepo (cell_self (keepo (keepo c2 (by omega)) (by omega))) (by omega)) (by omega)
  · exact keepo (cell_self (keepo (keepo (keepo c3 (by omega)) (by omega)) (by omega))) (by omega)
  · exact cell_self (keepo (keepo (keepo (keepo c4 (by omega)) (by omega)) (by omega)) (by omega))
theorem varNumC_new {W wn : World} {q : Cx} {k1 k2 k3 : Nat} {A1 A2 A3 : Option Addr} {T : TypeId} (K : Below W.heap.size W wn) (h : Num3C wn A1 A2 A3 q) :
    VarNumC W q (.pointer (some ⟨wn.heap.size, 0, none⟩)) (wn.alloc (.cells #[.bool (sn (na q)), .slice A1 (ln (ab (na q))) k1, .bool (sn (nb q)), .slice A2 (ln (ab (nb q))) k2, .slice A3 (ln (nd q)) k3] T)) :=
  ⟨wn.heap.size, A1, A2, A3, k1, k2, k3, rfl, ⟨by go_simp, by go_simp, by go_simp, by go_simp, by go_simp⟩, ⟨h.1.alloc _, h.2.1.alloc _, h.2.2.alloc _⟩, K.size, by simp, K.alloc K.size _⟩

set_option maxHeartbeats 4000000 in
theorem rneg_num (x : Cx) (A1 A2 A3 : Option Addr) (cA1 cA2 cA3 : Nat) (w : World) (hx : Num3C w A1 A2 A3 x) :
    Calls Tryz.prog 35 #[.agg #[.bool (sn (na x)), .slice A1 (ln (ab (na x))) cA1, .bool (sn (nb x)), .slice A2 (ln (ab (nb x))) cA2, .slice A3 (ln (nd x)) cA3]] w (RetNumC w x.neg) := by
  obtain ⟨hx1, hx2, hx3⟩ := hx
  obtain ⟨m1, m2, m3⟩ := neg_form x
  have M1 := Lib.hid m1
  have M2 := Lib.hid m2
  have M3 := Lib.hid m3
  clear m1 m2 m3
  go_enter Tryz.func35, Tryz.ntmps35
  go_wp2_with fail
  obtain ⟨W, hW⟩ : ∃ W : World, W = ((w.alloc (.cells #[.bool (sn (na x)), .slice A1 (ln (ab (na x))) cA1, .bool (sn (nb x)), .slice A2 (ln (ab (nb x))) cA2, .slice A3 (ln (nd x)) cA3] 34)).alloc (.cells #[.bool false, .slice none 0 0, .bool false, .slice none 0 0, .slice none 0 0] 34)) := ⟨_, rfl⟩
  have s0_0 : W.cell? ⟨w.heap.size, 0, none⟩ = some (.bool (sn (na x))) := by subst hW; go_simp
  have s0_1 : W.cell? ⟨w.heap.size, 1, none⟩ = some (.slice A1 (ln (ab (na x))) cA1) := by subst hW; go_simp
  have s0_2 : W.cell? ⟨w.heap.size, 2, none⟩ = some (.bool (sn (nb x))) := by subst hW; go_simp
  have s0_3 : W.cell? ⟨w.heap.size, 3, none⟩ = some (.slice A2 (ln (ab (nb x))) cA2) := by subst hW; go_simp
  have s0_4 : W.cell? ⟨w.heap.size, 4, none⟩ = some (.slice A3 (ln (nd x)) cA3) := by subst hW; go_simp
  have r0 : W.cell? ⟨w.heap.size + 1, 0, none⟩ = some (.bool false) := by subst hW; go_simp
  have f0 : W.frozen? ⟨w.heap.size + 1, 0, none⟩ = false := by subst hW; go_simp
  have r1 : W.cell? ⟨w.heap.size + 1, 1, none⟩ = some (.slice none 0 0) := by subst hW; go_simp
  have f1 : W.frozen? ⟨w.heap.size + 1, 1, none⟩ = false := by subst hW; go_simp
  have r2 : W.cell? ⟨w.heap.size + 1, 2, none⟩ = some (.bool false) := by subst hW; go_simp
  have f2 : W.frozen? ⟨w.heap.size + 1, 2, none⟩ = false := by subst hW; go_simp
  have r3 : W.cell? ⟨w.heap.size + 1, 3, none⟩ = some (.slice none 0 0) := by subst hW; go_simp
  have f3 : W.frozen? ⟨w.heap.size + 1, 3, none⟩ = false := by subst hW; go_simp
  have r4 : W.cell? ⟨w.heap.size + 1, 4, none⟩ = some (.slice none 0 0) := by subst hW; go_simp
  have f4 : W.frozen? ⟨w.heap.size + 1, 4, none⟩ = false := by subst hW; go_simp
  have HW : Below w.heap.size w W := by subst hW; exact (((Below.refl w.heap.size w).alloc (Nat.le_refl _) _).alloc (by simp) _)
  have l0 : w.heap.size < W.heap.size := by subst hW; simp <;> omega
  have l1 : w.heap.size + 1 < W.heap.size := by subst hW; simp
  have n0 : w.heap.size ≠ w.heap.size + 1 := by omega
  replace hx1 := hx1.to HW
  replace hx2 := hx2.to HW
  replace hx3 := hx3.to HW
  rw [← hW]
  clear hW
  replace HW := Lib.hid HW
  go_region_held3 (fun w' => w'.cell? ⟨w.heap.size, 0, none⟩ = some (.bool (sn (na x))) ∧ w'.cell? ⟨w.heap.size, 1, none⟩ = some (.slice A1 (ln (ab (na x))) cA1) ∧ w'.cell? ⟨w.heap.size, 2, none⟩ = some (.bool (sn (nb x))) ∧ w'.cell? ⟨w.heap.size, 3, none⟩ = some (.slice A2 (ln (ab (nb x))) cA2) ∧ w'.cell? ⟨w.heap.size, 4, none⟩ = some (.slice A3 (ln (nd x)) cA3)) (first | with_reducible exact ⟨s0_0, s0_1, s0_2, s0_3, s0_4⟩ | with_reducible exact ⟨(keeps (keeps (keeps (keeps (keeps s0_0 n0) n0) n0) n0) n0), (keeps (keeps (keeps (keeps (keeps s0_1 n0) n0) n0) n0) n0), (keeps (keeps (keeps (keeps (keeps s0_2 n0) n0) n0) n0) n0), (keeps (keeps (keeps (keeps (keeps s0_3 n0) n0) n0) n0) n0), (keeps (keeps (keeps (keeps (keeps s0_4 n0) n0) n0) n0) n0)⟩ | exact ⟨s0_0, s0_1, s0_2, s0_3, s0_4⟩) (first
    | (go_at_call_of 107 (Value.agg #[.bool (sn (na x)), .slice A1 (ln (ab (na x))) cA1]); refine (rintNeg_z M1.out A1 cA1 _ (by exact hx1)).mono ?_; rintro e w1 ⟨S1, d1, rfl, h1, hb1⟩; have hb1 := undrew hb1; replace s0_0 := keepc hb1 s0_0 l0; replace s0_1 := keepc hb1 s0_1 l0; replace s0_2 := keepc hb1 s0_2 l0; replace s0_3 := keepc hb1 s0_3 l0; replace s0_4 := keepc hb1 s0_4 l0; replace r0 := keepc hb1 r0 l1; replace f0 := keepf hb1 f0 l1; replace r1 := keepc hb1 r1 l1; replace f1 := keepf hb1 f1 l1; replace r2 := keepc hb1 r2 l1; replace f2 := keepf hb1 f2 l1; replace r3 := keepc hb1 r3 l1; replace f3 := keepf hb1 f3 l1; replace r4 := keepc hb1 r4 l1; replace f4 := keepf hb1 f4 l1; replace l0 := Nat.lt_of_lt_of_le l0 hb1.size; replace l1 := Nat.lt_of_lt_of_le l1 hb1.size; replace hx1 := hx1.to hb1; replace hx2 := hx2.to hb1; replace hx3 := hx3.to hb1; replace HW := Lib.hid (hstep HW hb1); clear hb1)
    | (go_at_call_of 107 (Value.agg #[.bool (sn (nb x)), .slice A2 (ln (ab (nb x))) cA2]); refine (rintNeg_z M2.out A2 cA2 _ (by exact hx2)).mono ?_; rintro e w2 ⟨S2, d2, rfl, h2, hb2⟩; replace s0_0 := keepc hb2 s0_0 l0; replace s0_1 := keepc hb2 s0_1 l0; replace s0_2 := keepc hb2 s0_2 l0; replace s0_3 := keepc hb2 s0_3 l0; replace s0_4 := keepc hb2 s0_4 l0; replace r0 := keepc hb2 r0 l1; replace f0 := keepf hb2 f0 l1; replace r1 := keepc hb2 r1 l1; replace f1 := keepf hb2 f1 l1; replace r2 := keepc hb2 r2 l1; replace f2 := keepf hb2 f2 l1; replace r3 := keepc hb2 r3 l1; replace f3 := keepf hb2 f3 l1; replace r4 := keepc hb2 r4 l1; replace f4 := keepf hb2 f4 l1; replace l0 := Nat.lt_of_lt_of_le l0 hb2.size; replace l1 := Nat.lt_of_lt_of_le l1 hb2.size; replace hx1 := hx1.to hb2; replace hx2 := hx2.to hb2; replace hx3 := hx3.to hb2; replace h1 := h1.to hb2; replace HW := Lib.hid (hstep HW hb2); clear hb2))
  go_wp2_with fail
  rw [← M3.out] at hx3 ⊢
  exact bodyPost_ret (v := .agg #[.bool (sn (na x.neg)), .slice S1 (ln (ab (na x.neg))) d1, .bool (sn (nb x.neg)), .slice S2 (ln (ab (nb x.neg))) d2, .slice A3 (ln (nd x.neg)) cA3]) (by simp [results, Tryz.results35, go_sem, r0, r1, r2, r3, r4, f0, f1, f2, f3, f4]) rfl (retNumC_fin HW (Num3C.mk' h1 h2 hx3) (by omega) r0)

set_option maxHeartbeats 4000000 in
theorem rconj_num (x : Cx) (A1 A2 A3 : Option Addr) (cA1 cA2 cA3 : Nat) (w : World) (hx : Num3C w A1 A2 A3 x) :
    Calls Tryz.prog 37 #[.agg #[.bool (sn (na x)), .slice A1 (ln (ab (na x))) cA1, .bool (sn (nb x)), .slice A2 (ln (ab (nb x))) cA2, .slice A3 (ln (nd x)) cA3]] w (RetNumC w x.conj) := by
  obtain ⟨hx1, hx2, hx3⟩ := hx
  obtain ⟨m1, m2, m3⟩ := conj_form x
  have M1 := Lib.hid m1
  have M2 := Lib.hid m2
  have M3 := Lib.hid m3
  clear m1 m2 m3
  go_enter Tryz.func37, Tryz.ntmps37
  go_wp2_with fail
  obtain ⟨W, hW⟩ : ∃ W : World, W = ((w.alloc (.cells #[.bool (sn (na x)), .slice A1 (ln (ab (na x))) cA1, .bool (sn (nb x)), .slice A2 (ln (ab (nb x))) cA2, .slice A3 (ln (nd x)) cA3] 34)).alloc (.cells #[.bool false, .slice none 0 0, .bool false, .slice none 0 0, .slice none 0 0] 34)) := ⟨_, rfl⟩
  have s0_0 : W.cell? ⟨w.heap.size, 0, none⟩ = some (.bool (sn (na x))) := by subst hW; go_simp
  have s0_1 : W.cell? ⟨w.heap.size, 1, none⟩ = some (.slice A1 (ln (ab (na x))) cA1) := by subst hW; go_simp
  have s0_2 : W.cell? ⟨w.heap.size, 2, none⟩ = some (.bool (sn (nb x))) := by subst hW; go_simp
  have s0_3 : W.cell? ⟨w.heap.size, 3, none⟩ = some (.slice A2 (ln (ab (nb x))) cA2) := by subst hW; go_simp
  have s0_4 : W.cell? ⟨w.heap.size, 4, none⟩ = some (.slice A3 (ln (nd x)) cA3) := by subst hW; go_simp
  have r0 : W.cell? ⟨w.heap.size + 1, 0, none⟩ = some (.bool false) := by subst hW; go_simp
  have f0 : W.frozen? ⟨w.heap.size + 1, 0, none⟩ = false := by subst hW; go_simp
  have r1 : W.cell? ⟨w.heap.size + 1, 1, none⟩ = some (.slice none 0 0) := by subst hW; go_simp
  have f1 : W.frozen? ⟨w.heap.size + 1, 1, none⟩ = false := by subst hW; go_simp
  have r2 : W.cell? ⟨w.heap.size + 1, 2, none⟩ = some (.bool false) := by subst hW; go_simp
  have f2 : W.frozen? ⟨w.heap.size + 1, 2, none⟩ = false := by subst hW; go_simp
  have r3 : W.cell? ⟨w.heap.size + 1, 3, none⟩ = some (.slice none 0 0) := by subst hW; go_simp
  have f3 : W.frozen? ⟨w.heap.size + 1, 3, none⟩ = false := by subst hW; go_simp
  have r4 : W.cell? ⟨w.heap.size + 1, 4, none⟩ = some (.slice none 0 0) := by subst hW; go_simp
  have f4 : W.frozen? ⟨w.heap.size + 1, 4, none⟩ = false := by subst hW; go_simp
  have HW : Below w.heap.size w W := by subst hW; exact (((Below.refl w.heap.size w).alloc (Nat.le_refl _) _).alloc (by simp) _)
  have l0 : w.heap.size < W.heap.size := by subst hW; simp <;> omega
  have l1 : w.heap.size + 1 < W.heap.size := by subst hW; simp
  have n0 : w.heap.size ≠ w.heap.size + 1 := by omega
  replace hx1 := hx1.to HW
  replace hx2 := hx2.to HW
  replace hx3 := hx3.to HW
  rw [← hW]
  clear hW
  replace HW := Lib.hid HW
  go_region_held3 (fun w' => w'.cell? ⟨w.heap.size, 0, none⟩ = some (.bool (sn (na x))) ∧ w'.cell? ⟨w.heap.size, 1, none⟩ = some (.slice A1 (ln (ab (na x))) cA1) ∧ w'.cell? ⟨w.heap.size, 2, none⟩ = some (.bool (sn (nb x))) ∧ w'.cell? ⟨w.heap.size, 3, none⟩ = some (.slice A2 (ln (ab (nb x))) cA2) ∧ w'.cell? ⟨w.heap.size, 4, none⟩ = some (.slice A3 (ln (nd x)) cA3)) (first | with_reducible exact ⟨s0_0, s0_1, s0_2, s0_3, s0_4⟩ | with_reducible exact ⟨(keeps (keeps (keeps (keeps (keeps s0_0 n0) n0) n0) n0) n0), (keeps (keeps (keeps (keeps (keeps s0_1 n0) n0) n0) n0) n0), (keeps (keeps (keeps (keeps (keeps s0_2 n0) n0) n0) n0) n0), (keeps (keeps (keeps (keeps (keeps s0_3 n0) n0) n0) n0) n0), (keeps (keeps (keeps (keeps (keeps s0_4 n0) n0) n0) n0) n0)⟩ | exact ⟨s0_0, s0_1, s0_2, s0_3, s0_4⟩) (first
    | (go_at_call 107; refine (rintNeg_z M2.out A2 cA2 _ (by exact hx2)).mono ?_; rintro e w1 ⟨S2, d2, rfl, h2, hb1⟩; have hb1 := undrew hb1; replace s0_0 := keepc hb1 s0_0 l0; replace s0_1 := keepc hb1 s0_1 l0; replace s0_2 := keepc hb1 s0_2 l0; replace s0_3 := keepc hb1 s0_3 l0; replace s0_4 := keepc hb1 s0_4 l0; replace r0 := keepc hb1 r0 l1; replace f0 := keepf hb1 f0 l1; replace r1 := keepc hb1 r1 l1; replace f1 := keepf hb1 f1 l1; replace r2 := keepc hb1 r2 l1; replace f2 := keepf hb1 f2 l1; replace r3 := keepc hb1 r3 l1; replace f3 := keepf hb1 f3 l1; replace r4 := keepc hb1 r4 l1; replace f4 := keepf hb1 f4 l1; replace l0 := Nat.lt_of_lt_of_le l0 hb1.size; replace l1 := Nat.lt_of_lt_of_le l1 hb1.size; replace hx1 := hx1.to hb1; replace hx2 := hx2.to hb1; replace hx3 := hx3.to hb1; replace HW := Lib.hid (hstep HW hb1); clear hb1))
  go_wp2_with fail
  rw [← M3.out] at hx3 ⊢
  rw [← M1.out] at hx1 ⊢
  exact bodyPost_ret (v := .agg #[.bool (sn (na x.conj)), .slice A1 (ln (ab (na x.conj))) cA1, .bool (sn (nb x.conj)), .slice S2 (ln (ab (nb x.conj))) d2, .slice A3 (ln (nd x.conj)) cA3]) (by simp [results, Tryz.results37, go_sem, r0, r1, r2, r3, r4, f0, f1, f2, f3, f4]) rfl (retNumC_fin HW (Num3C.mk' hx1 h2 hx3) (by omega) r0)

set_option maxHeartbeats 4000000 in
theorem rsub_num (x y : Cx) (A1 A2 A3 B1 B2 B3 : Option Addr) (cA1 cA2 cA3 cB1 cB2 cB3 : Nat) (w : World) (hx : Num3C w A1 A2 A3 x) (hy : Num3C w B1 B2 B3 y) (hsx : sz 137438953472 x) (hsy : sz 137438953472 y) :
    Calls Tryz.prog 29 #[.agg #[.bool (sn (na x)), .slice A1 (ln (ab (na x))) cA1, .bool (sn (nb x)), .slice A2 (ln (ab (nb x))) cA2, .slice A3 (ln (nd x)) cA3], .agg #[.bool (sn (na y)), .slice B1 (ln (ab (na y))) cB1, .bool (sn (nb y)), .slice B2 (ln (ab (nb y))) cB2, .slice B3 (ln (nd y)) cB3]] w (RetNumC w (x.sub y)) := by
  obtain ⟨hx1, hx2, hx3⟩ := hx
  obtain ⟨hy1, hy2, hy3⟩ := hy
  have HSX := Lib.hid hsx
  clear hsx
  have HSY := Lib.hid (sz_neg hsy)
  clear hsy
  have hd : x.sub y = x.add y.neg := rfl
  rw [hd]
  clear hd
  go_enter Tryz.func29, Tryz.ntmps29
  go_wp2_with fail
  obtain ⟨W, hW⟩ : ∃ W : World, W = (((w.alloc (.cells #[.bool (sn (na x)), .slice A1 (ln (ab (na x))) cA1, .bool (sn (nb x)), .slice A2 (ln (ab (nb x))) cA2, .slice A3 (ln (nd x)) cA3] 34)).alloc (.cells #[.bool (sn (na y)), .slice B1 (ln (ab (na y))) cB1, .bool (sn (nb y)), .slice B2 (ln (ab (nb y))) cB2, .slice B3 (ln (nd y)) cB3] 34)).alloc (.cells #[.bool false, .slice none 0 0, .bool false, .slice none 0 0, .slice none 0 0] 34)) := ⟨_, rfl⟩
  have s0_0 : W.cell? ⟨w.heap.size, 0, none⟩ = some (.bool (sn (na x))) := by subst hW; go_simp
  have s0_1 : W.cell? ⟨w.heap.size, 1, none⟩ = some (.slice A1 (ln (ab (na x))) cA1) := by subst hW; go_simp
  have s0_2 : W.cell? ⟨w.heap.size, 2, none⟩ = some (.bool (sn (nb x))) := by subst hW; go_simp
  have s0_3 : W.cell? ⟨w.heap.size, 3, none⟩ = some (.slice A2 (ln (ab (nb x))) cA2) := by subst hW; go_simp
  have s0_4 : W.cell? ⟨w.heap.size, 4, none⟩ = some (.slice A3 (ln (nd x)) cA3) := by subst hW; go_simp
  have s1_0 : W.cell? ⟨w.heap.size + 1, 0, none⟩ = some (.bool (sn (na y))) := by subst hW; go_simp
  have s1_1 : W.cell? ⟨w.heap.size + 1, 1, none⟩ = some (.slice B1 (ln (ab (na y))) cB1) := by subst hW; go_simp
  have s1_2 : W.cell? ⟨w.heap.size + 1, 2, none⟩ = some (.bool (sn (nb y))) := by subst hW; go_simp
  have s1_3 : W.cell? ⟨w.heap.size + 1, 3, none⟩ = some (.slice B2 (ln (ab (nb y))) cB2) := by subst hW; go_simp
  have s1_4 : W.cell? ⟨w.heap.size + 1, 4, none⟩ = some (.slice B3 (ln (nd y)) cB3) := by subst hW; go_simp
  have r0 : W.cell? ⟨w.heap.size + 1 + 1, 0, none⟩ = some (.bool false) := by subst hW; go_simp
  have f0 : W.frozen? ⟨w.heap.size + 1 + 1, 0, none⟩ = false := by subst hW; go_simp
  have r1 : W.cell? ⟨w.heap.size + 1 + 1, 1, none⟩ = some (.slice none 0 0) := by subst hW; go_simp
  have f1 : W.frozen? ⟨w.heap.size + 1 + 1, 1, none⟩ = false := by subst hW; go_simp
  have r2 : W.cell? ⟨w.heap.size + 1 + 1, 2, none⟩ = some (.bool false) := by subst hW; go_simp
  have f2 : W.frozen? ⟨w.heap.size + 1 + 1, 2, none⟩ = false := by subst hW; go_simp
  have r3 : W.cell? ⟨w.heap.size + 1 + 1, 3, none⟩ = some (.slice none 0 0) := by subst hW; go_simp
  have f3 : W.frozen? ⟨w.heap.size + 1 + 1, 3, none⟩ = false := by subst hW; go_simp
  have r4 : W.cell? ⟨w.heap.size + 1 + 1, 4, none⟩ = some (.slice none 0 0) := by subst hW; go_simp
  have f4 : W.frozen? ⟨w.heap.size + 1 + 1, 4, none⟩ = false := by subst hW; go_simp
  have HW : Below w.heap.size w W := by subst hW; exact ((((Below.refl w.heap.size w).alloc (Nat.le_refl _) _).alloc (by simp) _).alloc (by simp; omega) _)
  have l0 : w.heap.size < W.heap.size := by subst hW; simp <;> omega
  have l1 : w.heap.size + 1 < W.heap.size := by subst hW; simp <;> omega
  have l2 : w.heap.size + 1 + 1 < W.heap.size := by subst hW; simp
  have n0 : w.heap.size ≠ w.heap.size + 1 + 1 := by omega
  have n1 : w.heap.size + 1 ≠ w.heap.size + 1 + 1 := by omega
  replace hx1 := hx1.to HW
  replace hx2 := hx2.to HW
  replace hx3 := hx3.to HW
  replace hy1 := hy1.to HW
  replace hy2 := hy2.to HW
  replace hy3 := hy3.to HW
  rw [← hW]
  clear hW
  replace HW := Lib.hid HW
  go_region_held3 (fun w' => w'.cell? ⟨w.heap.size, 0, none⟩ = some (.bool (sn (na x))) ∧ w'.cell? ⟨w.heap.size, 1, none⟩ = some (.slice A1 (ln (ab (na x))) cA1) ∧ w'.cell? ⟨w.heap.size, 2, none⟩ = some (.bool (sn (nb x))) ∧ w'.cell? ⟨w.heap.size, 3, none⟩ = some (.slice A2 (ln (ab (nb x))) cA2) ∧ w'.cell? ⟨w.heap.size, 4, none⟩ = some (.slice A3 (ln (nd x)) cA3) ∧ w'.cell? ⟨w.heap.size + 1, 0, none⟩ = some (.bool (sn (na y))) ∧ w'.cell? ⟨w.heap.size + 1, 1, none⟩ = some (.slice B1 (ln (ab (na y))) cB1) ∧ w'.cell? ⟨w.heap.size + 1, 2, none⟩ = some (.bool (sn (nb y))) ∧ w'.cell? ⟨w.heap.size + 1, 3, none⟩ = some (.slice B2 (ln (ab (nb y))) cB2) ∧ w'.cell? ⟨w.heap.size + 1, 4, none⟩ = some (.slice B3 (ln (nd y)) cB3)) (first | with_reducible exact ⟨s0_0, s0_1, s0_2, s0_3, s0_4, s1_0, s1_1, s1_2, s1_3, s1_4⟩ | with_reducible exact ⟨(keeps (keeps (keeps (keeps (keeps s0_0 n0) n0) n0) n0) n0), (keeps (keeps (keeps (keeps (keeps s0_1 n0) n0) n0) n0) n0), (keeps (keeps (keeps (keeps (keeps s0_2 n0) n0) n0) n0) n0), (keeps (keeps (keeps (keeps (keeps s0_3 n0) n0) n0) n0) n0), (keeps (keeps (keeps (keeps (keeps s0_4 n0) n0) n0) n0) n0), (keeps (keeps (keeps (keeps (keeps s1_0 n1) n1) n1) n1) n1), (keeps (keeps (keeps (keeps (keeps s1_1 n1) n1) n1) n1) n1), (keeps (keeps (keeps (keeps (keeps s1_2 n1) n1) n1) n1) n1), (keeps (keeps (keeps (keeps (keeps s1_3 n1) n1) n1) n1) n1), (keeps (keeps (keeps (keeps (keeps s1_4 n1) n1) n1) n1) n1)⟩ | exact ⟨s0_0, s0_1, s0_2, s0_3, s0_4, s1_0, s1_1, s1_2, s1_3, s1_4⟩) (first
    | (go_at_call 35; refine (rneg_num y B1 B2 B3 cB1 cB2 cB3 _ (by exact Num3C.mk' hy1 hy2 hy3)).mono ?_; rintro e w1 ⟨M1, M2, M3, cM1, cM2, cM3, rfl, h1, hb1⟩; have hb1 := undrew hb1; replace s0_0 := keepc hb1 s0_0 l0; replace s0_1 := keepc hb1 s0_1 l0; replace s0_2 := keepc hb1 s0_2 l0; replace s0_3 := keepc hb1 s0_3 l0; replace s0_4 := keepc hb1 s0_4 l0; replace s1_0 := keepc hb1 s1_0 l1; replace s1_1 := keepc hb1 s1_1 l1; replace s1_2 := keepc hb1 s1_2 l1; replace s1_3 := keepc hb1 s1_3 l1; replace s1_4 := keepc hb1 s1_4 l1; replace r0 := keepc hb1 r0 l2; replace f0 := keepf hb1 f0 l2; replace r1 := keepc hb1 r1 l2; replace f1 := keepf hb1 f1 l2; replace r2 := keepc hb1 r2 l2; replace f2 := keepf hb1 f2 l2; replace r3 := keepc hb1 r3 l2; replace f3 := keepf hb1 f3 l2; replace r4 := keepc hb1 r4 l2; replace f4 := keepf hb1 f4 l2; replace l0 := Nat.lt_of_lt_of_le l0 hb1.size; replace l1 := Nat.lt_of_lt_of_le l1 hb1.size; replace l2 := Nat.lt_of_lt_of_le l2 hb1.size; replace hx1 := hx1.to hb1; replace hx2 := hx2.to hb1; replace hx3 := hx3.to hb1; replace hy1 := hy1.to hb1; replace hy2 := hy2.to hb1; replace hy3 := hy3.to hb1; replace HW := Lib.hid (hstep HW hb1); clear hb1)
    | (go_at_call 27; refine (radd_any x y.neg A1 A2 A3 M1 M2 M3 cA1 cA2 cA3 cM1 cM2 cM3 _ (by exact Num3C.mk' hx1 hx2 hx3) (by exact h1) HSX.out HSY.out).mono ?_; rintro e w2 ⟨Z1, Z2, Z3, cZ1, cZ2, cZ3, rfl, h2, hb2⟩; replace s0_0 := keepc hb2 s0_0 l0; replace s0_1 := keepc hb2 s0_1 l0; replace s0_2 := keepc hb2 s0_2 l0; replace s0_3 := keepc hb2 s0_3 l0; replace s0_4 := keepc hb2 s0_4 l0; replace s1_0 := keepc hb2 s1_0 l1; replace s1_1 := keepc hb2 s1_1 l1; replace s1_2 := keepc hb2 s1_2 l1; replace s1_3 := keepc hb2 s1_3 l1; replace s1_4 := keepc hb2 s1_4 l1; replace r0 := keepc hb2 r0 l2; replace f0 := keepf hb2 f0 l2; replace r1 := keepc hb2 r1 l2; replace f1 := keepf hb2 f1 l2; replace r2 := keepc hb2 r2 l2; replace f2 := keepf hb2 f2 l2; replace r3 := keepc hb2 r3 l2; replace f3 := keepf hb2 f3 l2; replace r4 := keepc hb2 r4 l2; replace f4 := keepf hb2 f4 l2; replace l0 := Nat.lt_of_lt_of_le l0 hb2.size; replace l1 := Nat.lt_of_lt_of_le l1 hb2.size; replace l2 := Nat.lt_of_lt_of_le l2 hb2.size; replace hx1 := hx1.to hb2; replace hx2 := hx2.to hb2; replace hx3 := hx3.to hb2; replace hy1 := hy1.to hb2; replace hy2 := hy2.to hb2; replace hy3 := hy3.to hb2; replace h1 := h1.to hb2; replace HW := Lib.hid (hstep HW hb2); clear hb2))
  go_wp2_with fail
  exact bodyPost_ret (v := .agg #[.bool (sn (na (x.add y.neg))), .slice Z1 (ln (ab (na (x.add y.neg)))) cZ1, .bool (sn (nb (x.add y.neg))), .slice Z2 (ln (ab (nb (x.add y.neg)))) cZ2, .slice Z3 (ln (nd (x.add y.neg))) cZ3]) (by simp [results, Tryz.results29, go_sem, r0, r1, r2, r3, r4, f0, f1, f2, f3, f4]) rfl (retNumC_fin HW h2 (by omega) r0)

set_option maxHeartbeats 4000000 in
theorem rnorm_num (x : Cx) (A1 A2 A3 : Option Addr) (cA1 cA2 cA3 : Nat) (w : World) (hx : Num3C w A1 A2 A3 x) (hsx : sz 137438953472 x) :
    Calls Tryz.prog 39 #[.agg #[.bool (sn (na x)), .slice A1 (ln (ab (na x))) cA1, .bool (sn (nb x)), .slice A2 (ln (ab (nb x))) cA2, .slice A3 (ln (nd x)) cA3]] w (RetNumC w x.norm) := by
  obtain ⟨hx1, hx2, hx3⟩ := hx
  have HSC := Lib.hid (sz_conj hsx)
  have HSX := Lib.hid hsx
  clear hsx
  rw [← norm_conj]
  go_enter Tryz.func39, Tryz.ntmps39
  go_wp2_with fail
  obtain ⟨W, hW⟩ : ∃ W : World, W = ((w.alloc (.cells #[.bool (sn (na x)), .slice A1 (ln (ab (na x))) cA1, .bool (sn (nb x)), .slice A2 (ln (ab (nb x))) cA2, .slice A3 (ln (nd x)) cA3] 34)).alloc (.cells #[.bool false, .slice none 0 0, .bool false, .slice none 0 0, .slice none 0 0] 34)) := ⟨_, rfl⟩
  have s0_0 : W.cell? ⟨w.heap.size, 0, none⟩ = some (.bool (sn (na x))) := by subst hW; go_simp
  have s0_1 : W.cell? ⟨w.heap.size, 1, none⟩ = some (.slice A1 (ln (ab (na x))) cA1) := by subst hW; go_simp
  have s0_2 : W.cell? ⟨w.heap.size, 2, none⟩ = some (.bool (sn (nb x))) := by subst hW; go_simp
  have s0_3 : W.cell? ⟨w.heap.size, 3, none⟩ = some (.slice A2 (ln (ab (nb x))) cA2) := by subst hW; go_simp
  have s0_4 : W.cell? ⟨w.heap.size, 4, none⟩ = some (.slice A3 (ln (nd x)) cA3) := by subst hW; go_simp
  have r0 : W.cell? ⟨w.heap.size + 1, 0, none⟩ = some (.bool false) := by subst hW; go_simp
  have f0 : W.frozen? ⟨w.heap.size + 1, 0, none⟩ = false := by subst hW; go_simp
  have r1 : W.cell? ⟨w.heap.size + 1, 1, none⟩ = some (.slice none 0 0) := by subst hW; go_simp
  have f1 : W.frozen? ⟨w.heap.size + 1, 1, none⟩ = false := by subst hW; go_simp
  have r2 : W.cell? ⟨w.heap.size + 1, 2, none⟩ = some (.bool false) := by subst hW; go_simp
  have f2 : W.frozen? ⟨w.heap.size + 1, 2, none⟩ = false := by subst hW; go_simp
  have r3 : W.cell? ⟨w.heap.size + 1, 3, none⟩ = some (.slice none 0 0) := by subst hW; go_simp
  have f3 : W.frozen? ⟨w.heap.size + 1, 3, none⟩ = false := by subst hW; go_simp
  have r4 : W.cell? ⟨w.heap.size + 1, 4, none⟩ = some (.slice none 0 0) := by subst hW; go_simp
  have f4 : W.frozen? ⟨w.heap.size + 1, 4, none⟩ = false := by subst hW; go_simp
  have HW : Below w.heap.size w W := by subst hW; exact (((Below.refl w.heap.size w).alloc (Nat.le_refl _) _).alloc (by simp) _)
  have l0 : w.heap.size < W.heap.size := by subst hW; simp <;> omega
  have l1 : w.heap.size + 1 < W.heap.size := by subst hW; simp
  have n0 : w.heap.size ≠ w.heap.size + 1 := by omega
  replace hx1 := hx1.to HW
  replace hx2 := hx2.to HW
  replace hx3 := hx3.to HW
  rw [← hW]
  clear hW
  replace HW := Lib.hid HW
  go_region_held3 (fun w' => w'.cell? ⟨w.heap.size, 0, none⟩ = some (.bool (sn (na x))) ∧ w'.cell? ⟨w.heap.size, 1, none⟩ = some (.slice A1 (ln (ab (na x))) cA1) ∧ w'.cell? ⟨w.heap.size, 2, none⟩ = some (.bool (sn (nb x))) ∧ w'.cell? ⟨w.heap.size, 3, none⟩ = some (.slice A2 (ln (ab (nb x))) cA2) ∧ w'.cell? ⟨w.heap.size, 4, none⟩ = some (.slice A3 (ln (nd x)) cA3)) (first | with_reducible exact ⟨s0_0, s0_1, s0_2, s0_3, s0_4⟩ | with_reducible exact ⟨(keeps (keeps (keeps (keeps (keeps s0_0 n0) n0) n0) n0) n0), (keeps (keeps (keeps (keeps (keeps s0_1 n0) n0) n0) n0) n0), (keeps (keeps (keeps (keeps (keeps s0_2 n0) n0) n0) n0) n0), (keeps (keeps (keeps (keeps (keeps s0_3 n0) n0) n0) n0) n0), (keeps (keeps (keeps (keeps (keeps s0_4 n0) n0) n0) n0) n0)⟩ | exact ⟨s0_0, s0_1, s0_2, s0_3, s0_4⟩) (first
    | (go_at_call 37; refine (rconj_num x A1 A2 A3 cA1 cA2 cA3 _ (by exact Num3C.mk' hx1 hx2 hx3)).mono ?_; rintro e w1 ⟨M1, M2, M3, cM1, cM2, cM3, rfl, h1, hb1⟩; have hb1 := undrew hb1; replace s0_0 := keepc hb1 s0_0 l0; replace s0_1 := keepc hb1 s0_1 l0; replace s0_2 := keepc hb1 s0_2 l0; replace s0_3 := keepc hb1 s0_3 l0; replace s0_4 := keepc hb1 s0_4 l0; replace r0 := keepc hb1 r0 l1; replace f0 := keepf hb1 f0 l1; replace r1 := keepc hb1 r1 l1; replace f1 := keepf hb1 f1 l1; replace r2 := keepc hb1 r2 l1; replace f2 := keepf hb1 f2 l1; replace r3 := keepc hb1 r3 l1; replace f3 := keepf hb1 f3 l1; replace r4 := keepc hb1 r4 l1; replace f4 := keepf hb1 f4 l1; replace l0 := Nat.lt_of_lt_of_le l0 hb1.size; replace l1 := Nat.lt_of_lt_of_le l1 hb1.size; replace hx1 := hx1.to hb1; replace hx2 := hx2.to hb1; replace hx3 := hx3.to hb1; replace HW := Lib.hid (hstep HW hb1); clear hb1)
    | (go_at_call 31; refine (rmul_any x x.conj A1 A2 A3 M1 M2 M3 cA1 cA2 cA3 cM1 cM2 cM3 _ (by exact Num3C.mk' hx1 hx2 hx3) (by exact h1) HSX.out HSC.out).mono ?_; rintro e w2 ⟨Z1, Z2, Z3, cZ1, cZ2, cZ3, rfl, h2, hb2⟩; replace s0_0 := keepc hb2 s0_0 l0; replace s0_1 := keepc hb2 s0_1 l0; replace s0_2 := keepc hb2 s0_2 l0; replace s0_3 := keepc hb2 s0_3 l0; replace s0_4 := keepc hb2 s0_4 l0; replace r0 := keepc hb2 r0 l1; replace f0 := keepf hb2 f0 l1; replace r1 := keepc hb2 r1 l1; replace f1 := keepf hb2 f1 l1; replace r2 := keepc hb2 r2 l1; replace f2 := keepf hb2 f2 l1; replace r3 := keepc hb2 r3 l1; replace f3 := keepf hb2 f3 l1; replace r4 := keepc hb2 r4 l1; replace f4 := keepf hb2 f4 l1; replace l0 := Nat.lt_of_lt_of_le l0 hb2.size; replace l1 := Nat.lt_of_lt_of_le l1 hb2.size; replace hx1 := hx1.to hb2; replace hx2 := hx2.to hb2; replace hx3 := hx3.to hb2; replace h1 := h1.to hb2; replace HW := Lib.hid (hstep HW hb2); clear hb2))
  go_wp2_with fail
  exact bodyPost_ret (v := .agg #[.bool (sn (na (x.mul x.conj))), .slice Z1 (ln (ab (na (x.mul x.conj)))) cZ1, .bool (sn (nb (x.mul x.conj))), .slice Z2 (ln (ab (nb (x.mul x.conj)))) cZ2, .slice Z3 (ln (nd (x.mul x.conj))) cZ3]) (by simp [results, Tryz.results39, go_sem, r0, r1, r2, r3, r4, f0, f1, f2, f3, f4]) rfl (retNumC_fin HW h2 (by omega) r0)

set_option maxHeartbeats 4000000 in
theorem rre_num (x : Cx) (A1 A2 A3 : Option Addr) (cA1 cA2 cA3 : Nat) (w : World) (hx : Num3C w A1 A2 A3 x) (hsx : sz 137438953472 x) :
    Calls Tryz.prog 42 #[.agg #[.bool (sn (na x)), .slice A1 (ln (ab (na x))) cA1, .bool (sn (nb x)), .slice A2 (ln (ab (nb x))) cA2, .slice A3 (ln (nd x)) cA3]] w (RetNumC w x.reOf) := by
  obtain ⟨hx1, hx2, hx3⟩ := hx
  have HSX := Lib.hid hsx
  clear hsx
  rw [← re_fr]
  go_enter Tryz.func42, Tryz.ntmps42
  go_wp2_with fail
  obtain ⟨W, hW⟩ : ∃ W : World, W = ((w.alloc (.cells #[.bool (sn (na x)), .slice A1 (ln (ab (na x))) cA1, .bool (sn (nb x)), .slice A2 (ln (ab (nb x))) cA2, .slice A3 (ln (nd x)) cA3] 34)).alloc (.cells #[.bool false, .slice none 0 0, .bool false, .slice none 0 0, .slice none 0 0] 34)) := ⟨_, rfl⟩
  have s0_0 : W.cell? ⟨w.heap.size, 0, none⟩ = some (.bool (sn (na x))) := by subst hW; go_simp
  have s0_1 : W.cell? ⟨w.heap.size, 1, none⟩ = some (.slice A1 (ln (ab (na x))) cA1) := by subst hW; go_simp
  have s0_2 : W.cell? ⟨w.heap.size, 2, none⟩ = some (.bool (sn (nb x))) := by subst hW; go_simp
  have s0_3 : W.cell? ⟨w.heap.size, 3, none⟩ = some (.slice A2 (ln (ab (nb x))) cA2) := by subst hW; go_simp
  have s0_4 : W.cell? ⟨w.heap.size, 4, none⟩ = some (.slice A3 (ln (nd x)) cA3) := by subst hW; go_simp
  have r0 : W.cell? ⟨w.heap.size + 1, 0, none⟩ = some (.bool false) := by subst hW; go_simp
  have f0 : W.frozen? ⟨w.heap.size + 1, 0, none⟩ = false := by subst hW; go_simp
  have r1 : W.cell? ⟨w.heap.size + 1, 1, none⟩ = some (.slice none 0 0) := by subst hW; go_simp
  have f1 : W.frozen? ⟨w.heap.size + 1, 1, none⟩ = false := by subst hW; go_simp
  have r2 : W.cell? ⟨w.heap.size + 1, 2, none⟩ = some (.bool false) := by subst hW; go_simp
  have f2 : W.frozen? ⟨w.heap.size + 1, 2, none⟩ = false := by subst hW; go_simp
  have r3 : W.cell? ⟨w.heap.size + 1, 3, none⟩ = some (.slice none 0 0) := by subst hW; go_simp
  have f3 : W.frozen? ⟨w.heap.size + 1, 3, none⟩ = false := by subst hW; go_simp
  have r4 : W.cell? ⟨w.heap.size + 1, 4, none⟩ = some (.slice none 0 0) := by subst hW; go_simp
  have f4 : W.frozen? ⟨w.heap.size + 1, 4, none⟩ = false := by subst hW; go_simp
  have HW : Below w.heap.size w W := by subst hW; exact (((Below.refl w.heap.size w).alloc (Nat.le_refl _) _).alloc (by simp) _)
  have l0 : w.heap.size < W.heap.size := by subst hW; simp <;> omega
  have l1 : w.heap.size + 1 < W.heap.size := by subst hW; simp
  have n0 : w.heap.size ≠ w.heap.size + 1 := by omega
  replace hx1 := hx1.to HW
  replace hx2 := hx2.to HW
  replace hx3 := hx3.to HW
  rw [← hW]
  clear hW
  replace HW := Lib.hid HW
  refine (rmake_re (na x) (nd x) A1 A3 cA1 cA3 _ (by exact hx1) (by exact hx3) (by have := HSX.out; unfold sz at this; omega) (by have := HSX.out; unfold sz at this; omega) (nd_ne0 x)).mono ?_
  rintro e w1 ⟨Z1, Z2, Z3, cZ1, cZ2, cZ3, rfl, h1, hb1⟩
  replace s0_0 := keepc hb1 s0_0 l0
  replace s0_1 := keepc hb1 s0_1 l0
  replace s0_2 := keepc hb1 s0_2 l0
  replace s0_3 := keepc hb1 s0_3 l0
  replace s0_4 := keepc hb1 s0_4 l0
  replace r0 := keepc hb1 r0 l1
  replace f0 := keepf hb1 f0 l1
  replace r1 := keepc hb1 r1 l1
  replace f1 := keepf hb1 f1 l1
  replace r2 := keepc hb1 r2 l1
  replace f2 := keepf hb1 f2 l1
  replace r3 := keepc hb1 r3 l1
  replace f3 := keepf hb1 f3 l1
  replace r4 := keepc hb1 r4 l1
  replace f4 := keepf hb1 f4 l1
  replace l0 := Nat.lt_of_lt_of_le l0 hb1.size
  replace l1 := Nat.lt_of_lt_of_le l1 hb1.size
  replace hx1 := hx1.to hb1
  replace hx2 := hx2.to hb1
  replace hx3 := hx3.to hb1
  replace HW := Lib.hid (hstep HW hb1)
  clear hb1
  go_wp2_with fail
  exact bodyPost_ret (v := .agg #[.bool (sn (na (fr (na x) 0 (nd x)))), .slice Z1 (ln (ab (na (fr (na x) 0 (nd x))))) cZ1, .bool (sn (nb (fr (na x) 0 (nd x)))), .slice Z2 (ln (ab (nb (fr (na x) 0 (nd x))))) cZ2, .slice Z3 (ln (nd (fr (na x) 0 (nd x)))) cZ3]) (by simp [results, Tryz.results42, go_sem, r0, r1, r2, r3, r4, f0, f1, f2, f3, f4]) rfl (retNumC_fin HW h1 (by omega) r0)

theorem zero_bool (x : Cx) : decide (x = Cx.zero) = (((ln (ab (na x)) : Int) == 0) && ((ln (ab (nb x)) : Int) == 0)) := by
  rw [Bool.eq_iff_iff, Bool.and_eq_true, beq_iff_eq, beq_iff_eq, decide_eq_true_eq]
  constructor
  · rintro rfl
    obtain ⟨e1, e2, _⟩ := zero_form
    rw [e1, e2]; exact ⟨by show ((ln 0 : Nat) : Int) = 0; rw [ln_zero]; rfl, by show ((ln 0 : Nat) : Int) = 0; rw [ln_zero]; rfl⟩
  · rintro ⟨h1, h2⟩
    have e1 := ln_eq0 (n := ab (na x)) (by omega)
    have e2 := ln_eq0 (n := ab (nb x)) (by omega)
    exact (zero_iff x).1 ⟨by unfold ab at e1; omega, by unfold ab at e2; omega⟩
set_option maxHeartbeats 4000000 in
theorem rzero_0 (x : Cx) (A1 A2 A3 : Option Addr) (cA1 cA2 cA3 : Nat) (w : World) (hx : Num3C w A1 A2 A3 x) (h1 : ((ln (ab (na x)) : Int) == 0) = false) :
    Calls Tryz.prog 47 #[.agg #[.bool (sn (na x)), .slice A1 (ln (ab (na x))) cA1, .bool (sn (nb x)), .slice A2 (ln (ab (nb x))) cA2, .slice A3 (ln (nd x)) cA3]] w (RetBool w (decide (x = Cx.zero))) := by
  obtain ⟨hx1, hx2, hx3⟩ := hx
  have E := Lib.hid (zero_bool x)
  go_enter Tryz.func47, Tryz.ntmps47
  go_wp2_with fail
  obtain ⟨W, hW⟩ : ∃ W : World, W = (w.alloc (.cells #[.bool (sn (na x)), .slice A1 (ln (ab (na x))) cA1, .bool (sn (nb x)), .slice A2 (ln (ab (nb x))) cA2, .slice A3 (ln (nd x)) cA3] 34)) := ⟨_, rfl⟩
  have s0_0 : W.cell? ⟨w.heap.size, 0, none⟩ = some (.bool (sn (na x))) := by subst hW; go_simp
  have s0_1 : W.cell? ⟨w.heap.size, 1, none⟩ = some (.slice A1 (ln (ab (na x))) cA1) := by subst hW; go_simp
  have s0_2 : W.cell? ⟨w.heap.size, 2, none⟩ = some (.bool (sn (nb x))) := by subst hW; go_simp
  have s0_3 : W.cell? ⟨w.heap.size, 3, none⟩ = some (.slice A2 (ln (ab (nb x))) cA2) := by subst hW; go_simp
  have s0_4 : W.cell? ⟨w.heap.size, 4, none⟩ = some (.slice A3 (ln (nd x)) cA3) := by subst hW; go_simp
  have HW : Below w.heap.size w W := by subst hW; exact ((Below.refl w.heap.size w).alloc (Nat.le_refl _) _)
  have l0 : w.heap.size < W.heap.size := by subst hW; simp
  replace hx1 := hx1.to HW
  replace hx2 := hx2.to HW
  replace hx3 := hx3.to HW
  rw [← hW]
  clear hW
  replace HW := Lib.hid HW
  go_ret
  rw [E.out, h1]
  exact ⟨by first | rfl | simp, HW.out⟩

set_option maxHeartbeats 4000000 in
theorem rzero_1 (x : Cx) (A1 A2 A3 : Option Addr) (cA1 cA2 cA3 : Nat) (w : World) (hx : Num3C w A1 A2 A3 x) (h1 : ((ln (ab (na x)) : Int) == 0) = true) :
    Calls Tryz.prog 47 #[.agg #[.bool (sn (na x)), .slice A1 (ln (ab (na x))) cA1, .bool (sn (nb x)), .slice A2 (ln (ab (nb x))) cA2, .slice A3 (ln (nd x)) cA3]] w (RetBool w (decide (x = Cx.zero))) := by
  obtain ⟨hx1, hx2, hx3⟩ := hx
  have E := Lib.hid (zero_bool x)
  go_enter Tryz.func47, Tryz.ntmps47
  go_wp2_with fail
  obtain ⟨W, hW⟩ : ∃ W : World, W = (w.alloc (.cells #[.bool (sn (na x)), .slice A1 (ln (ab (na x))) cA1, .bool (sn (nb x)), .slice A2 (ln (ab (nb x))) cA2, .slice A3 (ln (nd x)) cA3] 34)) := ⟨_, rfl⟩
  have s0_0 : W.cell? ⟨w.heap.size, 0, none⟩ = some (.bool (sn (na x))) := by subst hW; go_simp
  have s0_1 : W.cell? ⟨w.heap.size, 1, none⟩ = some (.slice A1 (ln (ab (na x))) cA1) := by subst hW; go_simp
  have s0_2 : W.cell? ⟨w.heap.size, 2, none⟩ = some (.bool (sn (nb x))) := by subst hW; go_simp
  have s0_3 : W.cell? ⟨w.heap.size, 3, none⟩ = some (.slice A2 (ln (ab (nb x))) cA2) := by subst hW; go_simp
  have s0_4 : W.cell? ⟨w.heap.size, 4, none⟩ = some (.slice A3 (ln (nd x)) cA3) := by subst hW; go_simp
  have HW : Below w.heap.size w W := by subst hW; exact ((Below.refl w.heap.size w).alloc (Nat.le_refl _) _)
  have l0 : w.heap.size < W.heap.size := by subst hW; simp
  replace hx1 := hx1.to HW
  replace hx2 := hx2.to HW
  replace hx3 := hx3.to HW
  rw [← hW]
  clear hW
  replace HW := Lib.hid HW
  go_ret
  rw [E.out, h1]
  exact ⟨by first | rfl | simp, HW.out⟩

/-- 'Zero'. -/
theorem rzero_any (x : Cx) (A1 A2 A3 : Option Addr) (cA1 cA2 cA3 : Nat) (w : World) (hx : Num3C w A1 A2 A3 x) :
    Calls Tryz.prog 47 #[.agg #[.bool (sn (na x)), .slice A1 (ln (ab (na x))) cA1, .bool (sn (nb x)), .slice A2 (ln (ab (nb x))) cA2, .slice A3 (ln (nd x)) cA3]] w (RetBool w (decide (x = Cx.zero))) := by
  cases h : ((ln (ab (na x)) : Int) == 0) with
  | false => exact rzero_0 x A1 A2 A3 cA1 cA2 cA3 w hx h
  | true => exact rzero_1 x A1 A2 A3 cA1 cA2 cA3 w hx h

theorem bne_bool {a b : Bool} (h : a ≠ b) : (a != b) = true := by cases a <;> cases b <;> simp_all
theorem beq_bool {a b : Bool} (h : a = b) : (a != b) = false := by subst h; cases a <;> rfl
set_option maxHeartbeats 4000000 in
theorem rcmpz_np (a b : Int) (A B : Option Addr) (cA cB : Nat) (w : World) (hx : Nat32 w A (ab a)) (hy : Nat32 w B (ab b)) (hbx : ln (ab a) ≤ 1099511627776) (hby : ln (ab b) ≤ 1099511627776) (h1 : sn a = true) (h2 : sn b = false) :
    Calls Tryz.prog 110 #[.agg #[.bool true, .slice A (ln (ab a)) cA], .agg #[.bool false, .slice B (ln (ab b)) cB]] w (RetInt w (cmpZ a b)) := by
  have E : Hid (cmpZ a b = -1) := Lib.hid (cmpZ_lt (by unfold sn at h1 h2; simp at h1 h2; omega))
  clear h1 h2
  go_enter Tryz.func110, Tryz.ntmps110
  go_wp2_with fail
  obtain ⟨W, hW⟩ : ∃ W : World, W = ((w.alloc (.cells #[.bool true, .slice A (ln (ab a)) cA] 32)).alloc (.cells #[.bool false, .slice B (ln (ab b)) cB] 32)) := ⟨_, rfl⟩
  have s0_0 : W.cell? ⟨w.heap.size, 0, none⟩ = some (.bool true) := by subst hW; go_simp
  have s0_1 : W.cell? ⟨w.heap.size, 1, none⟩ = some (.slice A (ln (ab a)) cA) := by subst hW; go_simp
  have s1_0 : W.cell? ⟨w.heap.size + 1, 0, none⟩ = some (.bool false) := by subst hW; go_simp
  have s1_1 : W.cell? ⟨w.heap.size + 1, 1, none⟩ = some (.slice B (ln (ab b)) cB) := by subst hW; go_simp
  have HW : Below w.heap.size w W := by subst hW; exact (((Below.refl w.heap.size w).alloc (Nat.le_refl _) _).alloc (by simp) _)
  have l0 : w.heap.size < W.heap.size := by subst hW; simp <;> omega
  have l1 : w.heap.size + 1 < W.heap.size := by subst hW; simp
  replace hx := hx.to HW
  replace hy := hy.to HW
  rw [← hW]
  clear hW
  replace HW := Lib.hid HW
  go_ret
  exact ⟨by rw [E.out]; rfl, HW.out⟩

set_option maxHeartbeats 4000000 in
theorem rcmpz_pn (a b : Int) (A B : Option Addr) (cA cB : Nat) (w : World) (hx : Nat32 w A (ab a)) (hy : Nat32 w B (ab b)) (hbx : ln (ab a) ≤ 1099511627776) (hby : ln (ab b) ≤ 1099511627776) (h1 : sn a = false) (h2 : sn b = true) :
    Calls Tryz.prog 110 #[.agg #[.bool false, .slice A (ln (ab a)) cA], .agg #[.bool true, .slice B (ln (ab b)) cB]] w (RetInt w (cmpZ a b)) := by
  have E : Hid (cmpZ a b = 1) := Lib.hid (cmpZ_gt (by unfold sn at h1 h2; simp at h1 h2; omega))
  clear h1 h2
  go_enter Tryz.func110, Tryz.ntmps110
  go_wp2_with fail
  obtain ⟨W, hW⟩ : ∃ W : World, W = ((w.alloc (.cells #[.bool false, .slice A (ln (ab a)) cA] 32)).alloc (.cells #[.bool true, .slice B (ln (ab b)) cB] 32)) := ⟨_, rfl⟩
  have s0_0 : W.cell? ⟨w.heap.size, 0, none⟩ = some (.bool false) := by subst hW; go_simp
  have s0_1 : W.cell? ⟨w.heap.size, 1, none⟩ = some (.slice A (ln (ab a)) cA) := by subst hW; go_simp
  have s1_0 : W.cell? ⟨w.heap.size + 1, 0, none⟩ = some (.bool true) := by subst hW; go_simp
  have s1_1 : W.cell? ⟨w.heap.size + 1, 1, none⟩ = some (.slice B (ln (ab b)) cB) := by subst hW; go_simp
  have HW : Below w.heap.size w W := by subst hW; exact (((Below.refl w.heap.size w).alloc (Nat.le_refl _) _).alloc (by simp) _)
  have l0 : w.heap.size < W.heap.size := by subst hW; simp <;> omega
  have l1 : w.heap.size + 1 < W.heap.size := by subst hW; simp
  replace hx := hx.to HW
  replace hy := hy.to HW
  rw [← hW]
  clear hW
  replace HW := Lib.hid HW
  go_ret
  exact ⟨by rw [E.out]; rfl, HW.out⟩

set_option maxHeartbeats 4000000 in
theorem rcmpz_nn (a b : Int) (A B : Option Addr) (cA cB : Nat) (w : World) (hx : Nat32 w A (ab a)) (hy : Nat32 w B (ab b)) (hbx : ln (ab a) ≤ 1099511627776) (hby : ln (ab b) ≤ 1099511627776) (h1 : sn a = true) (h2 : sn b = true) :
    Calls Tryz.prog 110 #[.agg #[.bool true, .slice A (ln (ab a)) cA], .agg #[.bool true, .slice B (ln (ab b)) cB]] w (RetInt w (cmpZ a b)) := by
  have E : Hid (cmpZ a b = cmpN (ab b) (ab a)) := Lib.hid (by unfold sn at h1 h2; simp at h1 h2; unfold cmpZ cmpN ab; split <;> split <;> first | rfl | omega | (split <;> first | rfl | omega))
  clear h1 h2
  go_enter Tryz.func110, Tryz.ntmps110
  go_wp2_with fail
  obtain ⟨W, hW⟩ : ∃ W : World, W = ((w.alloc (.cells #[.bool true, .slice A (ln (ab a)) cA] 32)).alloc (.cells #[.bool true, .slice B (ln (ab b)) cB] 32)) := ⟨_, rfl⟩
  have s0_0 : W.cell? ⟨w.heap.size, 0, none⟩ = some (.bool true) := by subst hW; go_simp
  have s0_1 : W.cell? ⟨w.heap.size, 1, none⟩ = some (.slice A (ln (ab a)) cA) := by subst hW; go_simp
  have s1_0 : W.cell? ⟨w.heap.size + 1, 0, none⟩ = some (.bool true) := by subst hW; go_simp
  have s1_1 : W.cell? ⟨w.heap.size + 1, 1, none⟩ = some (.slice B (ln (ab b)) cB) := by subst hW; go_simp
  have HW : Below w.heap.size w W := by subst hW; exact (((Below.refl w.heap.size w).alloc (Nat.le_refl _) _).alloc (by simp) _)
  have l0 : w.heap.size < W.heap.size := by subst hW; simp <;> omega
  have l1 : w.heap.size + 1 < W.heap.size := by subst hW; simp
  replace hx := hx.to HW
  replace hy := hy.to HW
  rw [← hW]
  clear hW
  replace HW := Lib.hid HW
  refine (rcmp_any (ab b) (ab a) B A cB cA _ (by exact hy) (by exact hx) (by omega)).mono ?_
  rintro e w1 ⟨rfl, hb1⟩
  replace s0_0 := keepc hb1 s0_0 l0
  replace s0_1 := keepc hb1 s0_1 l0
  replace s1_0 := keepc hb1 s1_0 l1
  replace s1_1 := keepc hb1 s1_1 l1
  replace l0 := Nat.lt_of_lt_of_le l0 hb1.size
  replace l1 := Nat.lt_of_lt_of_le l1 hb1.size
  replace hx := hx.to hb1
  replace hy := hy.to hb1
  replace HW := Lib.hid (hstep HW hb1)
  clear hb1
  go_wp2_with fail
  go_ret
  exact ⟨by rw [E.out]; rfl, HW.out⟩

set_option maxHeartbeats 4000000 in
theorem rcmpz_pp (a b : Int) (A B : Option Addr) (cA cB : Nat) (w : World) (hx : Nat32 w A (ab a)) (hy : Nat32 w B (ab b)) (hbx : ln (ab a) ≤ 1099511627776) (hby : ln (ab b) ≤ 1099511627776) (h1 : sn a = false) (h2 : sn b = false) :
    Calls Tryz.prog 110 #[.agg #[.bool false, .slice A (ln (ab a)) cA], .agg #[.bool false, .slice B (ln (ab b)) cB]] w (RetInt w (cmpZ a b)) := by
  have E : Hid (cmpZ a b = cmpN (ab a) (ab b)) := Lib.hid (by unfold sn at h1 h2; simp at h1 h2; unfold cmpZ cmpN ab; split <;> split <;> first | rfl | omega | (split <;> first | rfl | omega))
  clear h1 h2
  go_enter Tryz.func110, Tryz.ntmps110
  go_wp2_with fail
  obtain ⟨W, hW⟩ : ∃ W : World, W = ((w.alloc (.cells #[.bool false, .slice A (ln (ab a)) cA] 32)).alloc (.cells #[.bool false, .slice B (ln (ab b)) cB] 32)) := ⟨_, rfl⟩
  have s0_0 : W.cell? ⟨w.heap.size, 0, none⟩ = some (.bool false) := by subst hW; go_simp
  have s0_1 : W.cell? ⟨w.heap.size, 1, none⟩ = some (.slice A (ln (ab a)) cA) := by subst hW; go_simp
  have s1_0 : W.cell? ⟨w.heap.size + 1, 0, none⟩ = some (.bool false) := by subst hW; go_simp
  have s1_1 : W.cell? ⟨w.heap.size + 1, 1, none⟩ = some (.slice B (ln (ab b)) cB) := by subst hW; go_simp
  have HW : Below w.heap.size w W := by subst hW; exact (((Below.refl w.heap.size w).alloc (Nat.le_refl _) _).alloc (by simp) _)
  have l0 : w.heap.size < W.heap.size := by subst hW; simp <;> omega
  have l1 : w.heap.size + 1 < W.heap.size := by subst hW; simp
  replace hx := hx.to HW
  replace hy := hy.to HW
  rw [← hW]
  clear hW
  replace HW := Lib.hid HW
  refine (rcmp_any (ab a) (ab b) A B cA cB _ (by exact hx) (by exact hy) (by omega)).mono ?_
  rintro e w1 ⟨rfl, hb1⟩
  replace s0_0 := keepc hb1 s0_0 l0
  replace s0_1 := keepc hb1 s0_1 l0
  replace s1_0 := keepc hb1 s1_0 l1
  replace s1_1 := keepc hb1 s1_1 l1
  replace l0 := Nat.lt_of_lt_of_le l0 hb1.size
  replace l1 := Nat.lt_of_lt_of_le l1 hb1.size
  replace hx := hx.to hb1
  replace hy := hy.to hb1
  replace HW := Lib.hid (hstep HW hb1)
  clear hb1
  go_wp2_with fail
  go_ret
  exact ⟨by rw [E.out]; rfl, HW.out⟩

/-- 'IntCmp'. -/
theorem rcmpz_any (a b : Int) (A B : Option Addr) (cA cB : Nat) (w : World) (hx : Nat32 w A (ab a)) (hy : Nat32 w B (ab b)) (hbx : ln (ab a) ≤ 1099511627776) (hby : ln (ab b) ≤ 1099511627776) :
    Calls Tryz.prog 110 #[.agg #[.bool (sn (a)), .slice A (ln (ab (a))) cA], .agg #[.bool (sn (b)), .slice B (ln (ab (b))) cB]] w (RetInt w (cmpZ a b)) := by
  cases h1 : sn a with
  | false => cases h2 : sn b with
    | false => exact rcmpz_pp a b A B cA cB w hx hy hbx hby h1 h2
    | true => exact rcmpz_pn a b A B cA cB w hx hy hbx hby h1 h2
  | true => cases h2 : sn b with
    | false => exact rcmpz_np a b A B cA cB w hx hy hbx hby h1 h2
    | true => exact rcmpz_nn a b A B cA cB w hx hy hbx hby h1 h2

set_option maxHeartbeats 4000000 in
theorem rsame_0 (x y : Cx) (A1 A2 A3 B1 B2 B3 : Option Addr) (cA1 cA2 cA3 cB1 cB2 cB3 : Nat) (w : World) (hx : Num3C w A1 A2 A3 x) (hy : Num3C w B1 B2 B3 y) (hsx : sz 137438953472 x) (hsy : sz 137438953472 y) (h1 : na x ≠ na y) :
    Calls Tryz.prog 49 #[.agg #[.bool (sn (na x)), .slice A1 (ln (ab (na x))) cA1, .bool (sn (nb x)), .slice A2 (ln (ab (nb x))) cA2, .slice A3 (ln (nd x)) cA3], .agg #[.bool (sn (na y)), .slice B1 (ln (ab (na y))) cB1, .bool (sn (nb y)), .slice B2 (ln (ab (nb y))) cB2, .slice B3 (ln (nd y)) cB3]] w (RetBool w false) := by
  obtain ⟨hx1, hx2, hx3⟩ := hx
  obtain ⟨hy1, hy2, hy3⟩ := hy
  have HSX := Lib.hid hsx
  clear hsx
  have HSY := Lib.hid hsy
  clear hsy
  have t1 := cmpZ_ne h1
  clear h1
  go_enter Tryz.func49, Tryz.ntmps49
  go_wp2_with fail
  obtain ⟨W, hW⟩ : ∃ W : World, W = ((w.alloc (.cells #[.bool (sn (na x)), .slice A1 (ln (ab (na x))) cA1, .bool (sn (nb x)), .slice A2 (ln (ab (nb x))) cA2, .slice A3 (ln (nd x)) cA3] 34)).alloc (.cells #[.bool (sn (na y)), .slice B1 (ln (ab (na y))) cB1, .bool (sn (nb y)), .slice B2 (ln (ab (nb y))) cB2, .slice B3 (ln (nd y)) cB3] 34)) := ⟨_, rfl⟩
  have s0_0 : W.cell? ⟨w.heap.size, 0, none⟩ = some (.bool (sn (na x))) := by subst hW; go_simp
  have s0_1 : W.cell? ⟨w.heap.size, 1, none⟩ = some (.slice A1 (ln (ab (na x))) cA1) := by subst hW; go_simp
  have s0_2 : W.cell? ⟨w.heap.size, 2, none⟩ = some (.bool (sn (nb x))) := by subst hW; go_simp
  have s0_3 : W.cell? ⟨w.heap.size, 3, none⟩ = some (.slice A2 (ln (ab (nb x))) cA2) := by subst hW; go_simp
  have s0_4 : W.cell? ⟨w.heap.size, 4, none⟩ = some (.slice A3 (ln (nd x)) cA3) := by subst hW; go_simp
  have s1_0 : W.cell? ⟨w.heap.size + 1, 0, none⟩ = some (.bool (sn (na y))) := by subst hW; go_simp
  have s1_1 : W.cell? ⟨w.heap.size + 1, 1, none⟩ = some (.slice B1 (ln (ab (na y))) cB1) := by subst hW; go_simp
  have s1_2 : W.cell? ⟨w.heap.size + 1, 2, none⟩ = some (.bool (sn (nb y))) := by subst hW; go_simp
  have s1_3 : W.cell? ⟨w.heap.size + 1, 3, none⟩ = some (.slice B2 (ln (ab (nb y))) cB2) := by subst hW; go_simp
  have s1_4 : W.cell? ⟨w.heap.size + 1, 4, none⟩ = some (.slice B3 (ln (nd y)) cB3) := by subst hW; go_simp
  have HW : Below w.heap.size w W := by subst hW; exact (((Below.refl w.heap.size w).alloc (Nat.le_refl _) _).alloc (by simp) _)
  have l0 : w.heap.size < W.heap.size := by subst hW; simp <;> omega
  have l1 : w.heap.size + 1 < W.heap.size := by subst hW; simp
  replace hx1 := hx1.to HW
  replace hx2 := hx2.to HW
  replace hx3 := hx3.to HW
  replace hy1 := hy1.to HW
  replace hy2 := hy2.to HW
  replace hy3 := hy3.to HW
  rw [← hW]
  clear hW
  replace HW := Lib.hid HW
  refine (rcmpz_any (na x) (na y) A1 B1 cA1 cB1 _ (by exact hx1) (by exact hy1) (by have := HSX.out; unfold sz at this; omega) (by have := HSY.out; unfold sz at this; omega)).mono ?_
  rintro e w1 ⟨rfl, hb1⟩
  replace s0_0 := keepc hb1 s0_0 l0
  replace s0_1 := keepc hb1 s0_1 l0
  replace s0_2 := keepc hb1 s0_2 l0
  replace s0_3 := keepc hb1 s0_3 l0
  replace s0_4 := keepc hb1 s0_4 l0
  replace s1_0 := keepc hb1 s1_0 l1
  replace s1_1 := keepc hb1 s1_1 l1
  replace s1_2 := keepc hb1 s1_2 l1
  replace s1_3 := keepc hb1 s1_3 l1
  replace s1_4 := keepc hb1 s1_4 l1
  replace l0 := Nat.lt_of_lt_of_le l0 hb1.size
  replace l1 := Nat.lt_of_lt_of_le l1 hb1.size
  replace hx1 := hx1.to hb1
  replace hx2 := hx2.to hb1
  replace hx3 := hx3.to hb1
  replace hy1 := hy1.to hb1
  replace hy2 := hy2.to hb1
  replace hy3 := hy3.to hb1
  replace HW := Lib.hid (hstep HW hb1)
  clear hb1
  go_wp2_with fail
  go_ret
  exact ⟨rfl, HW.out⟩

set_option maxHeartbeats 4000000 in
theorem rsame_1 (x y : Cx) (A1 A2 A3 B1 B2 B3 : Option Addr) (cA1 cA2 cA3 cB1 cB2 cB3 : Nat) (w : World) (hx : Num3C w A1 A2 A3 x) (hy : Num3C w B1 B2 B3 y) (hsx : sz 137438953472 x) (hsy : sz 137438953472 y) (h1 : na x = na y) (h2 : nb x ≠ nb y) :
    Calls Tryz.prog 49 #[.agg #[.bool (sn (na x)), .slice A1 (ln (ab (na x))) cA1, .bool (sn (nb x)), .slice A2 (ln (ab (nb x))) cA2, .slice A3 (ln (nd x)) cA3], .agg #[.bool (sn (na y)), .slice B1 (ln (ab (na y))) cB1, .bool (sn (nb y)), .slice B2 (ln (ab (nb y))) cB2, .slice B3 (ln (nd y)) cB3]] w (RetBool w false) := by
  obtain ⟨hx1, hx2, hx3⟩ := hx
  obtain ⟨hy1, hy2, hy3⟩ := hy
  have HSX := Lib.hid hsx
  clear hsx
  have HSY := Lib.hid hsy
  clear hsy
  have t1 := cmpZ_eq h1
  have t2 := cmpZ_ne h2
  clear h1 h2
  go_enter Tryz.func49, Tryz.ntmps49
  go_wp2_with fail
  obtain ⟨W, hW⟩ : ∃ W : World, W = ((w.alloc (.cells #[.bool (sn (na x)), .slice A1 (ln (ab (na x))) cA1, .bool (sn (nb x)), .slice A2 (ln (ab (nb x))) cA2, .slice A3 (ln (nd x)) cA3] 34)).alloc (.cells #[.bool (sn (na y)), .slice B1 (ln (ab (na y))) cB1, .bool (sn (nb y)), .slice B2 (ln (ab (nb y))) cB2, .slice B3 (ln (nd y)) cB3] 34)) := ⟨_, rfl⟩
  have s0_0 : W.cell? ⟨w.heap.size, 0, none⟩ = some (.bool (sn (na x))) := by subst hW; go_simp
  have s0_1 : W.cell? ⟨w.heap.size, 1, none⟩ = some (.slice A1 (ln (ab (na x))) cA1) := by subst hW; go_simp
  have s0_2 : W.cell? ⟨w.heap.size, 2, none⟩ = some (.bool (sn (nb x))) := by subst hW; go_simp
  have s0_3 : W.cell? ⟨w.heap.size, 3, none⟩ = some (.slice A2 (ln (ab (nb x))) cA2) := by subst hW; go_simp
  have s0_4 : W.cell? ⟨w.heap.size, 4, none⟩ = some (.slice A3 (ln (nd x)) cA3) := by subst hW; go_simp
  have s1_0 : W.cell? ⟨w.heap.size + 1, 0, none⟩ = some (.bool (sn (na y))) := by subst hW; go_simp
  have s1_1 : W.cell? ⟨w.heap.size + 1, 1, none⟩ = some (.slice B1 (ln (ab (na y))) cB1) := by subst hW; go_simp
  have s1_2 : W.cell? ⟨w.heap.size + 1, 2, none⟩ = some (.bool (sn (nb y))) := by subst hW; go_simp
  have s1_3 : W.cell? ⟨w.heap.size + 1, 3, none⟩ = some (.slice B2 (ln (ab (nb y))) cB2) := by subst hW; go_simp
  have s1_4 : W.cell? ⟨w.heap.size + 1, 4, none⟩ = some (.slice B3 (ln (nd y)) cB3) := by subst hW; go_simp
  have HW : Below w.heap.size w W := by subst hW; exact (((Below.refl w.heap.size w).alloc (Nat.le_refl _) _).alloc (by simp) _)
  have l0 : w.heap.size < W.heap.size := by subst hW; simp <;> omega
  have l1 : w.heap.size + 1 < W.heap.size := by subst hW; simp
  replace hx1 := hx1.to HW
  replace hx2 := hx2.to HW
  replace hx3 := hx3.to HW
  replace hy1 := hy1.to HW
  replace hy2 := hy2.to HW
  replace hy3 := hy3.to HW
  rw [← hW]
  clear hW
  replace HW := Lib.hid HW
  refine (rcmpz_any (na x) (na y) A1 B1 cA1 cB1 _ (by exact hx1) (by exact hy1) (by have := HSX.out; unfold sz at this; omega) (by have := HSY.out; unfold sz at this; omega)).mono ?_
  rintro e w1 ⟨rfl, hb1⟩
  replace s0_0 := keepc hb1 s0_0 l0
  replace s0_1 := keepc hb1 s0_1 l0
  replace s0_2 := keepc hb1 s0_2 l0
  replace s0_3 := keepc hb1 s0_3 l0
  replace s0_4 := keepc hb1 s0_4 l0
  replace s1_0 := keepc hb1 s1_0 l1
  replace s1_1 := keepc hb1 s1_1 l1
  replace s1_2 := keepc hb1 s1_2 l1
  replace s1_3 := keepc hb1 s1_3 l1
  replace s1_4 := keepc hb1 s1_4 l1
  replace l0 := Nat.lt_of_lt_of_le l0 hb1.size
  replace l1 := Nat.lt_of_lt_of_le l1 hb1.size
  replace hx1 := hx1.to hb1
  replace hx2 := hx2.to hb1
  replace hx3 := hx3.to hb1
  replace hy1 := hy1.to hb1
  replace hy2 := hy2.to hb1
  replace hy3 := hy3.to hb1
  replace HW := Lib.hid (hstep HW hb1)
  clear hb1
  go_wp2_with fail
  refine (rcmpz_any (nb x) (nb y) A2 B2 cA2 cB2 _ (by exact hx2) (by exact hy2) (by have := HSX.out; unfold sz at this; omega) (by have := HSY.out; unfold sz at this; omega)).mono ?_
  rintro e w2 ⟨rfl, hb2⟩
  replace s0_0 := keepc hb2 s0_0 l0
  replace s0_1 := keepc hb2 s0_1 l0
  replace s0_2 := keepc hb2 s0_2 l0
  replace s0_3 := keepc hb2 s0_3 l0
  replace s0_4 := keepc hb2 s0_4 l0
  replace s1_0 := keepc hb2 s1_0 l1
  replace s1_1 := keepc hb2 s1_1 l1
  replace s1_2 := keepc hb2 s1_2 l1
  replace s1_3 := keepc hb2 s1_3 l1
  replace s1_4 := keepc hb2 s1_4 l1
  replace l0 := Nat.lt_of_lt_of_le l0 hb2.size
  replace l1 := Nat.lt_of_lt_of_le l1 hb2.size
  replace hx1 := hx1.to hb2
  replace hx2 := hx2.to hb2
  replace hx3 := hx3.to hb2
  replace hy1 := hy1.to hb2
  replace hy2 := hy2.to hb2
  replace hy3 := hy3.to hb2
  replace HW := Lib.hid (hstep HW hb2)
  clear hb2
  go_wp2_with fail
  go_ret
  exact ⟨rfl, HW.out⟩

set_option maxHeartbeats 4000000 in
theorem rsame_2 (x y : Cx) (A1 A2 A3 B1 B2 B3 : Option Addr) (cA1 cA2 cA3 cB1 cB2 cB3 : Nat) (w : World) (hx : Num3C w A1 A2 A3 x) (hy : Num3C w B1 B2 B3 y) (hsx : sz 137438953472 x) (hsy : sz 137438953472 y) (h1 : na x = na y) (h2 : nb x = nb y) (h3 : nd x ≠ nd y) :
    Calls Tryz.prog 49 #[.agg #[.bool (sn (na x)), .slice A1 (ln (ab (na x))) cA1, .bool (sn (nb x)), .slice A2 (ln (ab (nb x))) cA2, .slice A3 (ln (nd x)) cA3], .agg #[.bool (sn (na y)), .slice B1 (ln (ab (na y))) cB1, .bool (sn (nb y)), .slice B2 (ln (ab (nb y))) cB2, .slice B3 (ln (nd y)) cB3]] w (RetBool w false) := by
  obtain ⟨hx1, hx2, hx3⟩ := hx
  obtain ⟨hy1, hy2, hy3⟩ := hy
  have HSX := Lib.hid hsx
  clear hsx
  have HSY := Lib.hid hsy
  clear hsy
  have t1 := cmpZ_eq h1
  have t2 := cmpZ_eq h2
  have t3 := cmpN_ne h3
  clear h1 h2 h3
  go_enter Tryz.func49, Tryz.ntmps49
  go_wp2_with fail
  obtain ⟨W, hW⟩ : ∃ W : World, W = ((w.alloc (.cells #[.bool (sn (na x)), .slice A1 (ln (ab (na x))) cA1, .bool (sn (nb x)), .slice A2 (ln (ab (nb x))) cA2, .slice A3 (ln (nd x)) cA3] 34)).alloc (.cells #[.bool (sn (na y)), .slice B1 (ln (ab (na y))) cB1, .bool (sn (nb y)), .slice B2 (ln (ab (nb y))) cB2, .slice B3 (ln (nd y)) cB3] 34)) := ⟨_, rfl⟩
  have s0_0 : W.cell? ⟨w.heap.size, 0, none⟩ = some (.bool (sn (na x))) := by subst hW; go_simp
  have s0_1 : W.cell? ⟨w.heap.size, 1, none⟩ = some (.slice A1 (ln (ab (na x))) cA1) := by subst hW; go_simp
  have s0_2 : W.cell? ⟨w.heap.size, 2, none⟩ = some (.bool (sn (nb x))) := by subst hW; go_simp
  have s0_3 : W.cell? ⟨w.heap.size, 3, none⟩ = some (.slice A2 (ln (ab (nb x))) cA2) := by subst hW; go_simp
  have s0_4 : W.cell? ⟨w.heap.size, 4, none⟩ = some (.slice A3 (ln (nd x)) cA3) := by subst hW; go_simp
  have s1_0 : W.cell? ⟨w.heap.size + 1, 0, none⟩ = some (.bool (sn (na y))) := by subst hW; go_simp
  have s1_1 : W.cell? ⟨w.heap.size + 1, 1, none⟩ = some (.slice B1 (ln (ab (na y))) cB1) := by subst hW; go_simp
  have s1_2 : W.cell? ⟨w.heap.size + 1, 2, none⟩ = some (.bool (sn (nb y))) := by subst hW; go_simp
  have s1_3 : W.cell? ⟨w.heap.size + 1, 3, none⟩ = some (.slice B2 (ln (ab (nb y))) cB2) := by subst hW; go_simp
  have s1_4 : W.cell? ⟨w.heap.size + 1, 4, none⟩ = some (.slice B3 (ln (nd y)) cB3) := by subst hW; go_simp
  have HW : Below w.heap.size w W := by subst hW; exact (((Below.refl w.heap.size w).alloc (Nat.le_refl _) _).alloc (by simp) _)
  have l0 : w.heap.size < W.heap.size := by subst hW; simp <;> omega
  have l1 : w.heap.size + 1 < W.heap.size := by subst hW; simp
  replace hx1 := hx1.to HW
  replace hx2 := hx2.to HW
  replace hx3 := hx3.to HW
  replace hy1 := hy1.to HW
  replace hy2 := hy2.to HW
  replace hy3 := hy3.to HW
  rw [← hW]
  clear hW
  replace HW := Lib.hid HW
  refine (rcmpz_any (na x) (na y) A1 B1 cA1 cB1 _ (by exact hx1) (by exact hy1) (by have := HSX.out; unfold sz at this; omega) (by have := HSY.out; unfold sz at this; omega)).mono ?_
  rintro e w1 ⟨rfl, hb1⟩
  replace s0_0 := keepc hb1 s0_0 l0
  replace s0_1 := keepc hb1 s0_1 l0
  replace s0_2 := keepc hb1 s0_2 l0
  replace s0_3 := keepc hb1 s0_3 l0
  replace s0_4 := keepc hb1 s0_4 l0
  replace s1_0 := keepc hb1 s1_0 l1
  replace s1_1 := keepc hb1 s1_1 l1
  replace s1_2 := keepc hb1 s1_2 l1
  replace s1_3 := keepc hb1 s1_3 l1
  replace s1_4 := keepc hb1 s1_4 l1
  replace l0 := Nat.lt_of_lt_of_le l0 hb1.size
  replace l1 := Nat.lt_of_lt_of_le l1 hb1.size
  replace hx1 := hx1.to hb1
  replace hx2 := hx2.to hb1
  replace hx3 := hx3.to hb1
  replace hy1 := hy1.to hb1
  replace hy2 := hy2.to hb1
  replace hy3 := hy3.to hb1
  replace HW := Lib.hid (hstep HW hb1)
  clear hb1
  go_wp2_with fail
  refine (rcmpz_any (nb x) (nb y) A2 B2 cA2 cB2 _ (by exact hx2) (by exact hy2) (by have := HSX.out; unfold sz at this; omega) (by have := HSY.out; unfold sz at this; omega)).mono ?_
  rintro e w2 ⟨rfl, hb2⟩
  replace s0_0 := keepc hb2 s0_0 l0
  replace s0_1 := keepc hb2 s0_1 l0
  replace s0_2 := keepc hb2 s0_2 l0
  replace s0_3 := keepc hb2 s0_3 l0
  replace s0_4 := keepc hb2 s0_4 l0
  replace s1_0 := keepc hb2 s1_0 l1
  replace s1_1 := keepc hb2 s1_1 l1
  replace s1_2 := keepc hb2 s1_2 l1
  replace s1_3 := keepc hb2 s1_3 l1
  replace s1_4 := keepc hb2 s1_4 l1
  replace l0 := Nat.lt_of_lt_of_le l0 hb2.size
  replace l1 := Nat.lt_of_lt_of_le l1 hb2.size
  replace hx1 := hx1.to hb2
  replace hx2 := hx2.to hb2
  replace hx3 := hx3.to hb2
  replace hy1 := hy1.to hb2
  replace hy2 := hy2.to hb2
  replace hy3 := hy3.to hb2
  replace HW := Lib.hid (hstep HW hb2)
  clear hb2
  go_wp2_with fail
  refine (rcmp_any (nd x) (nd y) A3 B3 cA3 cB3 _ (by exact hx3) (by exact hy3) (by have := HSX.out; unfold sz at this; omega)).mono ?_
  rintro e w3 ⟨rfl, hb3⟩
  replace s0_0 := keepc hb3 s0_0 l0
  replace s0_1 := keepc hb3 s0_1 l0
  replace s0_2 := keepc hb3 s0_2 l0
  replace s0_3 := keepc hb3 s0_3 l0
  replace s0_4 := keepc hb3 s0_4 l0
  replace s1_0 := keepc hb3 s1_0 l1
  replace s1_1 := keepc hb3 s1_1 l1
  replace s1_2 := keepc hb3 s1_2 l1
  replace s1_3 := keepc hb3 s1_3 l1
  replace s1_4 := keepc hb3 s1_4 l1
  replace l0 := Nat.lt_of_lt_of_le l0 hb3.size
  replace l1 := Nat.lt_of_lt_of_le l1 hb3.size
  replace hx1 := hx1.to hb3
  replace hx2 := hx2.to hb3
  replace hx3 := hx3.to hb3
  replace hy1 := hy1.to hb3
  replace hy2 := hy2.to hb3
  replace hy3 := hy3.to hb3
  replace HW := Lib.hid (hstep HW hb3)
  clear hb3
  go_wp2_with fail
  go_ret
  exact ⟨rfl, HW.out⟩

set_option maxHeartbeats 4000000 in
theorem rsame_3 (x y : Cx) (A1 A2 A3 B1 B2 B3 : Option Addr) (cA1 cA2 cA3 cB1 cB2 cB3 : Nat) (w : World) (hx : Num3C w A1 A2 A3 x) (hy : Num3C w B1 B2 B3 y) (hsx : sz 137438953472 x) (hsy : sz 137438953472 y) (h1 : na x = na y) (h2 : nb x = nb y) (h3 : nd x = nd y) :
    Calls Tryz.prog 49 #[.agg #[.bool (sn (na x)), .slice A1 (ln (ab (na x))) cA1, .bool (sn (nb x)), .slice A2 (ln (ab (nb x))) cA2, .slice A3 (ln (nd x)) cA3], .agg #[.bool (sn (na y)), .slice B1 (ln (ab (na y))) cB1, .bool (sn (nb y)), .slice B2 (ln (ab (nb y))) cB2, .slice B3 (ln (nd y)) cB3]] w (RetBool w true) := by
  obtain ⟨hx1, hx2, hx3⟩ := hx
  obtain ⟨hy1, hy2, hy3⟩ := hy
  have HSX := Lib.hid hsx
  clear hsx
  have HSY := Lib.hid hsy
  clear hsy
  have t1 := cmpZ_eq h1
  have t2 := cmpZ_eq h2
  have t3 := cmpN_eq h3
  clear h1 h2 h3
  go_enter Tryz.func49, Tryz.ntmps49
  go_wp2_with fail
  obtain ⟨W, hW⟩ : ∃ W : World, W = ((w.alloc (.cells #[.bool (sn (na x)), .slice A1 (ln (ab (na x))) cA1, .bool (sn (nb x)), .slice A2 (ln (ab (nb x))) cA2, .slice A3 (ln (nd x)) cA3] 34)).alloc (.cells #[.bool (sn (na y)), .slice B1 (ln (ab (na y))) cB1, .bool (sn (nb y)), .slice B2 (ln (ab (nb y))) cB2, .slice B3 (ln (nd y)) cB3] 34)) := ⟨_, rfl⟩
  have s0_0 : W.cell? ⟨w.heap.size, 0, none⟩ = some (.bool (sn (na x))) := by subst hW; go_simp
  have s0_1 : W.cell? ⟨w.heap.size, 1, none⟩ = some (.slice A1 (ln (ab (na x))) cA1) := by subst hW; go_simp
  have s0_2 : W.cell? ⟨w.heap.size, 2, none⟩ = some (.bool (sn (nb x))) := by subst hW; go_simp
  have s0_3 : W.cell? ⟨w.heap.size, 3, none⟩ = some (.slice A2 (ln (ab (nb x))) cA2) := by subst hW; go_simp
  have s0_4 : W.cell? ⟨w.heap.size, 4, none⟩ = some (.slice A3 (ln (nd x)) cA3) := by subst hW; go_simp
  have s1_0 : W.cell? ⟨w.heap.size + 1, 0, none⟩ = some (.bool (sn (na y))) := by subst hW; go_simp
  have s1_1 : W.cell? ⟨w.heap.size + 1, 1, none⟩ = some (.slice B1 (ln (ab (na y))) cB1) := by subst hW; go_simp
  have s1_2 : W.cell? ⟨w.heap.size + 1, 2, none⟩ = some (.bool (sn (nb y))) := by subst hW; go_simp
  have s1_3 : W.cell? ⟨w.heap.size + 1, 3, none⟩ = some (.slice B2 (ln (ab (nb y))) cB2) := by subst hW; go_simp
  have s1_4 : W.cell? ⟨w.heap.size + 1, 4, none⟩ = some (.slice B3 (ln (nd y)) cB3) := by subst hW; go_simp
  have HW : Below w.heap.size w W := by subst hW; exact (((Below.refl w.heap.size w).alloc (Nat.le_refl _) _).alloc (by simp) _)
  have l0 : w.heap.size < W.heap.size := by subst hW; simp <;> omega
  have l1 : w.heap.size + 1 < W.heap.size := by subst hW; simp
  replace hx1 := hx1.to HW
  replace hx2 := hx2.to HW
  replace hx3 := hx3.to HW
  replace hy1 := hy1.to HW
  replace hy2 := hy2.to HW
  replace hy3 := hy3.to HW
  rw [← hW]
  clear hW
  replace HW := Lib.hid HW
  refine (rcmpz_any (na x) (na y) A1 B1 cA1 cB1 _ (by exact hx1) (by exact hy1) (by have := HSX.out; unfold sz at this; omega) (by have := HSY.out; unfold sz at this; omega)).mono ?_
  rintro e w1 ⟨rfl, hb1⟩
  replace s0_0 := keepc hb1 s0_0 l0
  replace s0_1 := keepc hb1 s0_1 l0
  replace s0_2 := keepc hb1 s0_2 l0
  replace s0_3 := keepc hb1 s0_3 l0
  replace s0_4 := keepc hb1 s0_4 l0
  replace s1_0 := keepc hb1 s1_0 l1
  replace s1_1 := keepc hb1 s1_1 l1
  replace s1_2 := keepc hb1 s1_2 l1
  replace s1_3 := keepc hb1 s1_3 l1
  replace s1_4 := keepc hb1 s1_4 l1
  replace l0 := Nat.lt_of_lt_of_le l0 hb1.size
  replace l1 := Nat.lt_of_lt_of_le l1 hb1.size
  replace hx1 := hx1.to hb1
  replace hx2 := hx2.to hb1
  replace hx3 := hx3.to hb1
  replace hy1 := hy1.to hb1
  replace hy2 := hy2.to hb1
  replace hy3 := hy3.to hb1
  replace HW := Lib.hid (hstep HW hb1)
  clear hb1
  go_wp2_with fail
  refine (rcmpz_any (nb x) (nb y) A2 B2 cA2 cB2 _ (by exact hx2) (by exact hy2) (by have := HSX.out; unfold sz at this; omega) (by have := HSY.out; unfold sz at this; omega)).mono ?_
  rintro e w2 ⟨rfl, hb2⟩
  replace s0_0 := keepc hb2 s0_0 l0
  replace s0_1 := keepc hb2 s0_1 l0
  replace s0_2 := keepc hb2 s0_2 l0
  replace s0_3 := keepc hb2 s0_3 l0
  replace s0_4 := keepc hb2 s0_4 l0
  replace s1_0 := keepc hb2 s1_0 l1
  replace s1_1 := keepc hb2 s1_1 l1
  replace s1_2 := keepc hb2 s1_2 l1
  replace s1_3 := keepc hb2 s1_3 l1
  replace s1_4 := keepc hb2 s1_4 l1
  replace l0 := Nat.lt_of_lt_of_le l0 hb2.size
  replace l1 := Nat.lt_of_lt_of_le l1 hb2.size
  replace hx1 := hx1.to hb2
  replace hx2 := hx2.to hb2
  replace hx3 := hx3.to hb2
  replace hy1 := hy1.to hb2
  replace hy2 := hy2.to hb2
  replace hy3 := hy3.to hb2
  replace HW := Lib.hid (hstep HW hb2)
  clear hb2
  go_wp2_with fail
  refine (rcmp_any (nd x) (nd y) A3 B3 cA3 cB3 _ (by exact hx3) (by exact hy3) (by have := HSX.out; unfold sz at this; omega)).mono ?_
  rintro e w3 ⟨rfl, hb3⟩
  replace s0_0 := keepc hb3 s0_0 l0
  replace s0_1 := keepc hb3 s0_1 l0
  replace s0_2 := keepc hb3 s0_2 l0
  replace s0_3 := keepc hb3 s0_3 l0
  replace s0_4 := keepc hb3 s0_4 l0
  replace s1_0 := keepc hb3 s1_0 l1
  replace s1_1 := keepc hb3 s1_1 l1
  replace s1_2 := keepc hb3 s1_2 l1
  replace s1_3 := keepc hb3 s1_3 l1
  replace s1_4 := keepc hb3 s1_4 l1
  replace l0 := Nat.lt_of_lt_of_le l0 hb3.size
  replace l1 := Nat.lt_of_lt_of_le l1 hb3.size
  replace hx1 := hx1.to hb3
  replace hx2 := hx2.to hb3
  replace hx3 := hx3.to hb3
  replace hy1 := hy1.to hb3
  replace hy2 := hy2.to hb3
  replace hy3 := hy3.to hb3
  replace HW := Lib.hid (hstep HW hb3)
  clear hb3
  go_wp2_with fail
  go_ret
  exact ⟨rfl, HW.out⟩

/-- 'Same'. -/
theorem rsame_any (x y : Cx) (A1 A2 A3 B1 B2 B3 : Option Addr) (cA1 cA2 cA3 cB1 cB2 cB3 : Nat) (w : World) (hx : Num3C w A1 A2 A3 x) (hy : Num3C w B1 B2 B3 y) (hsx : sz 137438953472 x) (hsy : sz 137438953472 y) :
    Calls Tryz.prog 49 #[.agg #[.bool (sn (na x)), .slice A1 (ln (ab (na x))) cA1, .bool (sn (nb x)), .slice A2 (ln (ab (nb x))) cA2, .slice A3 (ln (nd x)) cA3], .agg #[.bool (sn (na y)), .slice B1 (ln (ab (na y))) cB1, .bool (sn (nb y)), .slice B2 (ln (ab (nb y))) cB2, .slice B3 (ln (nd y)) cB3]] w (RetBool w (decide (x = y))) := by
  by_cases h1 : na x = na y
  · by_cases h2 : nb x = nb y
    · by_cases h3 : nd x = nd y
      · rw [decide_eq_true (cx_inj h1 h2 h3)]; exact rsame_3 x y A1 A2 A3 B1 B2 B3 cA1 cA2 cA3 cB1 cB2 cB3 w hx hy hsx hsy h1 h2 h3
      · rw [decide_eq_false (fun e => h3 (by rw [e]))]; exact rsame_2 x y A1 A2 A3 B1 B2 B3 cA1 cA2 cA3 cB1 cB2 cB3 w hx hy hsx hsy h1 h2 h3
    · rw [decide_eq_false (fun e => h2 (by rw [e]))]; exact rsame_1 x y A1 A2 A3 B1 B2 B3 cA1 cA2 cA3 cB1 cB2 cB3 w hx hy hsx hsy h1 h2
  · rw [decide_eq_false (fun e => h1 (by rw [e]))]; exact rsame_0 x y A1 A2 A3 B1 B2 B3 cA1 cA2 cA3 cB1 cB2 cB3 w hx hy hsx hsy h1

end Go.Proofs.YtgpmlhpgdalheaaGreat
