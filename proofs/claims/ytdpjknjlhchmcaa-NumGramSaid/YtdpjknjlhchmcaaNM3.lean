/- Part 3 of the proof. -/
import Derived.Test.YtdpjknjlhchmcaaNM2
import Derived.LoopN
import Derived.Test.YtdpjknjlhchmcaaNM1
import Derived.Deep.LoopGhost
import Derived.Maps.AppendAt
import Derived.Laws.BytesString
import Derived.Laws.Cells
import Derived.Deep.AppendLies
import Derived.WalkLawsBesides
namespace Go.Proofs.Ytdpjknjlhchmcaa
open Go.RowKit Pl
set_option linter.unusedVariables false
set_option linter.unusedSimpArgs false
/-- The quotients by an integer. -/
def frz (a b d : Int) : Cx := ⟨(a : Rat) / (d : Rat), (b : Rat) / (d : Rat)⟩
theorem frz_pos {a b d : Int} (h : 0 < d) : fr a b (ab d) = frz a b d := by
  have : ((ab d : Nat) : Int) = d := by unfold ab; omega
  have e : ((ab d : Nat) : Rat) = (d : Rat) := by rw [← Rat.intCast_natCast, this]
  unfold fr frz; rw [e]
theorem frz_neg {a b d : Int} (h : d < 0) : fr (-a) (-b) (ab d) = frz a b d := by
  have : ((ab d : Nat) : Int) = -d := by unfold ab; omega
  have e : ((ab d : Nat) : Rat) = -(d : Rat) := by rw [← Rat.intCast_natCast, this, Rat.intCast_neg]
  have hd : (d : Rat) ≠ 0 := by intro e; have := Rat.intCast_eq_zero_iff.1 e; omega
  unfold fr frz; rw [e, Rat.intCast_neg, Rat.intCast_neg]; congr 1 <;> grind
/-- Two local integers in the blocks p and p + 1 are set. -/
def set4 (w : World) (p : Nat) (z1 z2 : Int) (M1 M2 : Option Addr) : World :=
  (((w.setCell ⟨p, 0, none⟩ (.bool (sn z1))).setCell ⟨p, 1, none⟩ (.slice M1 (ln (ab z1)) (ln (ab z1)))).setCell ⟨p + 1, 0, none⟩ (.bool (sn z2))).setCell ⟨p + 1, 1, none⟩ (.slice M2 (ln (ab z2)) (ln (ab z2)))
theorem set4_size (w : World) (p : Nat) (z1 z2 : Int) (M1 M2 : Option Addr) : (set4 w p z1 z2 M1 M2).heap.size = w.heap.size := by simp [set4, World.setCell]
theorem set4_cell {w : World} {p b i : Nat} {z1 z2 : Int} {M1 M2 : Option Addr} {v : Value} (h : w.cell? ⟨b, i, none⟩ = some v) (h1 : b ≠ p) (h2 : b ≠ p + 1) : (set4 w p z1 z2 M1 M2).cell? ⟨b, i, none⟩ = some v := keepo (keepo (keepo (keepo h (.inl h1)) (.inl h1)) (.inl h2)) (.inl h2)
theorem set4_frozen {w : World} {p b i : Nat} {z1 z2 : Int} {M1 M2 : Option Addr} {v : Bool} (h : w.frozen? ⟨b, i, none⟩ = v) : (set4 w p z1 z2 M1 M2).frozen? ⟨b, i, none⟩ = v := keepof (keepof (keepof (keepof h)))
theorem set4_below {w W : World} {B p : Nat} {z1 z2 : Int} {M1 M2 : Option Addr} (h : Below B w W) (hp : B ≤ p) : Below B w (set4 W p z1 z2 M1 M2) :=
  (((h.setCell (by exact hp) _).setCell (by exact hp) _).setCell (by show B ≤ p + 1; omega) _).setCell (by show B ≤ p + 1; omega) _
theorem set4_nat {w : World} {p n : Nat} {z1 z2 : Int} {M1 M2 A : Option Addr} {c1 c2 : Bool} (h : Nat32 w A n) (u1 : w.cell? ⟨p, 0, none⟩ = some (.bool c1)) (u2 : w.cell? ⟨p + 1, 0, none⟩ = some (.bool c2)) : Nat32 (set4 w p z1 z2 M1 M2) A n := by
  have nb : ∀ (b : Bool) k m, Value.bool b ≠ .int k m := by intro b k m e; cases e
  have a1 := cell_self (u := .bool (sn z1)) u1
  have b1 : ((w.setCell ⟨p, 0, none⟩ (.bool (sn z1))).setCell ⟨p, 1, none⟩ (.slice M1 (ln (ab z1)) (ln (ab z1)))).cell? ⟨p + 1, 0, none⟩ = some (.bool c2) := keepo (keepo u2 (.inl (by omega))) (.inl (by omega))
  exact (((h.setBox u1 (nb _)).setBox a1 (nb _)).setBox b1 (nb _)).setBox (cell_self b1) (nb _)
set_option maxHeartbeats 4000000 in
theorem new_pos (a b d : Int) (w : World) (ha : -9223372036854775808 ≤ a ∧ a ≤ 9223372036854775807) (hb : -9223372036854775808 ≤ b ∧ b ≤ 9223372036854775807) (hd : -9223372036854775808 ≤ d ∧ d ≤ 9223372036854775807) (h : 0 < d) :
    Calls Try.prog 53 #[.int .i64 a, .int .i64 b, .int .i64 d] w (RetNumE w 0 (frz a b d)) := by
  have HA := Lib.hid ha
  have HB := Lib.hid hb
  have HD := Lib.hid hd
  clear ha hb hd
  rw [← frz_pos h]
  have t : (d == 0) = false := by rw [beq_eq_false_iff_ne]; omega
  have t1 : sn d = false := by unfold sn; rw [decide_eq_false_iff_not]; omega
  have HN : Hid (ab d ≠ 0) := Lib.hid (by unfold ab; omega)
  clear h
  go_enter Try.func53, Try.ntmps53
  go_wp2_with fail
  obtain ⟨W, hW⟩ : ∃ W : World, W = (w.alloc (.cells #[.bool false, .slice none 0 0, .bool false, .slice none 0 0, .slice none 0 0] 34)) := ⟨_, rfl⟩
  have r0 : W.cell? ⟨w.heap.size, 0, none⟩ = some (.bool false) := by subst hW; go_simp
  have f0 : W.frozen? ⟨w.heap.size, 0, none⟩ = false := by subst hW; go_simp
  have r1 : W.cell? ⟨w.heap.size, 1, none⟩ = some (.slice none 0 0) := by subst hW; go_simp
  have f1 : W.frozen? ⟨w.heap.size, 1, none⟩ = false := by subst hW; go_simp
  have r2 : W.cell? ⟨w.heap.size, 2, none⟩ = some (.bool false) := by subst hW; go_simp
  have f2 : W.frozen? ⟨w.heap.size, 2, none⟩ = false := by subst hW; go_simp
  have r3 : W.cell? ⟨w.heap.size, 3, none⟩ = some (.slice none 0 0) := by subst hW; go_simp
  have f3 : W.frozen? ⟨w.heap.size, 3, none⟩ = false := by subst hW; go_simp
  have r4 : W.cell? ⟨w.heap.size, 4, none⟩ = some (.slice none 0 0) := by subst hW; go_simp
  have f4 : W.frozen? ⟨w.heap.size, 4, none⟩ = false := by subst hW; go_simp
  have HW : Below w.heap.size w W := by subst hW; exact ((Below.refl w.heap.size w).alloc (Nat.le_refl _) _)
  have l0 : w.heap.size < W.heap.size := by subst hW; simp
  rw [← hW]
  clear hW
  replace HW := Lib.hid HW
  refine (of64_any a _ HA.out.1 HA.out.2).mono ?_
  rintro e w1 ⟨A1, rfl, h1, hb1⟩
  replace r0 := keepc hb1 r0 l0
  replace f0 := keepf hb1 f0 l0
  replace r1 := keepc hb1 r1 l0
  replace f1 := keepf hb1 f1 l0
  replace r2 := keepc hb1 r2 l0
  replace f2 := keepf hb1 f2 l0
  replace r3 := keepc hb1 r3 l0
  replace f3 := keepf hb1 f3 l0
  replace r4 := keepc hb1 r4 l0
  replace f4 := keepf hb1 f4 l0
  replace l0 := Nat.lt_of_lt_of_le l0 hb1.size
  replace HW := Lib.hid (hstep HW hb1)
  clear hb1
  go_wp2_with fail
  refine (of64_any b _ HB.out.1 HB.out.2).mono ?_
  rintro e w2 ⟨A2, rfl, h2, hb2⟩
  replace r0 := keepc hb2 r0 l0
  replace f0 := keepf hb2 f0 l0
  replace r1 := keepc hb2 r1 l0
  replace f1 := keepf hb2 f1 l0
  replace r2 := keepc hb2 r2 l0
  replace f2 := keepf hb2 f2 l0
  replace r3 := keepc hb2 r3 l0
  replace f3 := keepf hb2 f3 l0
  replace r4 := keepc hb2 r4 l0
  replace f4 := keepf hb2 f4 l0
  replace l0 := Nat.lt_of_lt_of_le l0 hb2.size
  replace h1 := h1.to hb2
  replace HW := Lib.hid (hstep HW hb2)
  clear hb2
  go_wp2_with fail
  refine (of64_any d _ HD.out.1 HD.out.2).mono ?_
  rintro e w3 ⟨A3, rfl, h3, hb3⟩
  replace r0 := keepc hb3 r0 l0
  replace f0 := keepf hb3 f0 l0
  replace r1 := keepc hb3 r1 l0
  replace f1 := keepf hb3 f1 l0
  replace r2 := keepc hb3 r2 l0
  replace f2 := keepf hb3 f2 l0
  replace r3 := keepc hb3 r3 l0
  replace f3 := keepf hb3 f3 l0
  replace r4 := keepc hb3 r4 l0
  replace f4 := keepf hb3 f4 l0
  replace l0 := Nat.lt_of_lt_of_le l0 hb3.size
  replace h1 := h1.to hb3
  replace h2 := h2.to hb3
  replace HW := Lib.hid (hstep HW hb3)
  clear hb3
  go_wp2_with fail
  refine (over_any a b (ab d) A1 A2 A3 _ (by exact (((h1.alloc _).alloc _).alloc _)) (by exact (((h2.alloc _).alloc _).alloc _)) (by exact (((h3.alloc _).alloc _).alloc _)) (by have := ab_small HA.out.1 HA.out.2; omega) (by have := ab_small HB.out.1 HB.out.2; omega) (by have := ab_small HD.out.1 HD.out.2; omega) HN.out).mono ?_
  rintro e w4 ⟨Z1, Z2, Z3, rfl, h4, hb4⟩
  replace hb4 := unalloc (unalloc (unalloc hb4))
  replace r0 := keepc hb4 r0 l0
  replace f0 := keepf hb4 f0 l0
  replace r1 := keepc hb4 r1 l0
  replace f1 := keepf hb4 f1 l0
  replace r2 := keepc hb4 r2 l0
  replace f2 := keepf hb4 f2 l0
  replace r3 := keepc hb4 r3 l0
  replace f3 := keepf hb4 f3 l0
  replace r4 := keepc hb4 r4 l0
  replace f4 := keepf hb4 f4 l0
  replace l0 := Nat.lt_of_lt_of_le l0 hb4.size
  replace h1 := h1.to hb4
  replace h2 := h2.to hb4
  replace h3 := h3.to hb4
  replace HW := Lib.hid (hstep HW hb4)
  clear hb4
  go_wp2_with fail
  exact bodyPost_ret (v := .tuple #[.agg #[.bool (sn (na (fr a b (ab d)))), .slice Z1 (ln (ab (na (fr a b (ab d))))) (ln (ab (na (fr a b (ab d))))), .bool (sn (nb (fr a b (ab d)))), .slice Z2 (ln (ab (nb (fr a b (ab d))))) (ln (ab (nb (fr a b (ab d))))), .slice Z3 (ln (un (fr a b (ab d)))) (ln (un (fr a b (ab d))))], .int .i64 0]) (by simp [results, Try.results53, go_sem, r0, r1, r2, r3, r4, f0, f1, f2, f3, f4]) rfl (retNumE_fin HW h4 (by omega) r0)
set_option maxHeartbeats 4000000 in
theorem new_neg (a b d : Int) (w : World) (ha : -9223372036854775808 ≤ a ∧ a ≤ 9223372036854775807) (hb : -9223372036854775808 ≤ b ∧ b ≤ 9223372036854775807) (hd : -9223372036854775808 ≤ d ∧ d ≤ 9223372036854775807) (h : d < 0) :
    Calls Try.prog 53 #[.int .i64 a, .int .i64 b, .int .i64 d] w (RetNumE w 0 (frz a b d)) := by
  have HA := Lib.hid ha
  have HB := Lib.hid hb
  have HD := Lib.hid hd
  clear ha hb hd
  rw [← frz_neg h]
  have t : (d == 0) = false := by rw [beq_eq_false_iff_ne]; omega
  have t1 : sn d = true := by unfold sn; rw [decide_eq_true_eq]; omega
  have HN : Hid (ab d ≠ 0) := Lib.hid (by unfold ab; omega)
  clear h
  go_enter Try.func53, Try.ntmps53
  go_wp2_with fail
  obtain ⟨W, hW⟩ : ∃ W : World, W = (w.alloc (.cells #[.bool false, .slice none 0 0, .bool false, .slice none 0 0, .slice none 0 0] 34)) := ⟨_, rfl⟩
  have r0 : W.cell? ⟨w.heap.size, 0, none⟩ = some (.bool false) := by subst hW; go_simp
  have f0 : W.frozen? ⟨w.heap.size, 0, none⟩ = false := by subst hW; go_simp
  have r1 : W.cell? ⟨w.heap.size, 1, none⟩ = some (.slice none 0 0) := by subst hW; go_simp
  have f1 : W.frozen? ⟨w.heap.size, 1, none⟩ = false := by subst hW; go_simp
  have r2 : W.cell? ⟨w.heap.size, 2, none⟩ = some (.bool false) := by subst hW; go_simp
  have f2 : W.frozen? ⟨w.heap.size, 2, none⟩ = false := by subst hW; go_simp
  have r3 : W.cell? ⟨w.heap.size, 3, none⟩ = some (.slice none 0 0) := by subst hW; go_simp
  have f3 : W.frozen? ⟨w.heap.size, 3, none⟩ = false := by subst hW; go_simp
  have r4 : W.cell? ⟨w.heap.size, 4, none⟩ = some (.slice none 0 0) := by subst hW; go_simp
  have f4 : W.frozen? ⟨w.heap.size, 4, none⟩ = false := by subst hW; go_simp
  have HW : Below w.heap.size w W := by subst hW; exact ((Below.refl w.heap.size w).alloc (Nat.le_refl _) _)
  have l0 : w.heap.size < W.heap.size := by subst hW; simp
  rw [← hW]
  clear hW
  replace HW := Lib.hid HW
  refine (of64_any a _ HA.out.1 HA.out.2).mono ?_
  rintro e w1 ⟨A1, rfl, h1, hb1⟩
  replace r0 := keepc hb1 r0 l0
  replace f0 := keepf hb1 f0 l0
  replace r1 := keepc hb1 r1 l0
  replace f1 := keepf hb1 f1 l0
  replace r2 := keepc hb1 r2 l0
  replace f2 := keepf hb1 f2 l0
  replace r3 := keepc hb1 r3 l0
  replace f3 := keepf hb1 f3 l0
  replace r4 := keepc hb1 r4 l0
  replace f4 := keepf hb1 f4 l0
  replace l0 := Nat.lt_of_lt_of_le l0 hb1.size
  replace HW := Lib.hid (hstep HW hb1)
  clear hb1
  go_wp2_with fail
  refine (of64_any b _ HB.out.1 HB.out.2).mono ?_
  rintro e w2 ⟨A2, rfl, h2, hb2⟩
  replace r0 := keepc hb2 r0 l0
  replace f0 := keepf hb2 f0 l0
  replace r1 := keepc hb2 r1 l0
  replace f1 := keepf hb2 f1 l0
  replace r2 := keepc hb2 r2 l0
  replace f2 := keepf hb2 f2 l0
  replace r3 := keepc hb2 r3 l0
  replace f3 := keepf hb2 f3 l0
  replace r4 := keepc hb2 r4 l0
  replace f4 := keepf hb2 f4 l0
  replace l0 := Nat.lt_of_lt_of_le l0 hb2.size
  replace h1 := h1.to hb2
  replace HW := Lib.hid (hstep HW hb2)
  clear hb2
  go_wp2_with fail
  refine (of64_any d _ HD.out.1 HD.out.2).mono ?_
  rintro e w3 ⟨A3, rfl, h3, hb3⟩
  replace r0 := keepc hb3 r0 l0
  replace f0 := keepf hb3 f0 l0
  replace r1 := keepc hb3 r1 l0
  replace f1 := keepf hb3 f1 l0
  replace r2 := keepc hb3 r2 l0
  replace f2 := keepf hb3 f2 l0
  replace r3 := keepc hb3 r3 l0
  replace f3 := keepf hb3 f3 l0
  replace r4 := keepc hb3 r4 l0
  replace f4 := keepf hb3 f4 l0
  replace l0 := Nat.lt_of_lt_of_le l0 hb3.size
  replace h1 := h1.to hb3
  replace h2 := h2.to hb3
  replace HW := Lib.hid (hstep HW hb3)
  clear hb3
  go_upto_region 5 with fail
  obtain ⟨X, hX⟩ : ∃ X : World, X = (((w3.alloc (.cells #[.bool (sn a), .slice A1 (ln (ab a)) (ln (ab a))] 32)).alloc (.cells #[.bool (sn b), .slice A2 (ln (ab b)) (ln (ab b))] 32)).alloc (.cells #[.bool true, .slice A3 (ln (ab d)) (ln (ab d))] 32)) := ⟨_, rfl⟩
  rw [← hX]
  have hX3 : Below w3.heap.size w3 X := by subst hX; exact (((Below.refl _ _).alloc (Nat.le_refl _) _).alloc (by simp) _).alloc (by simp; omega) _
  have u0_0 : X.cell? ⟨w3.heap.size, 0, none⟩ = some (.bool (sn a)) := by subst hX; go_simp
  have u0_1 : X.cell? ⟨w3.heap.size, 1, none⟩ = some (.slice A1 (ln (ab a)) (ln (ab a))) := by subst hX; go_simp
  have e0_0 : X.frozen? ⟨w3.heap.size, 0, none⟩ = false := by subst hX; go_simp
  have e0_1 : X.frozen? ⟨w3.heap.size, 1, none⟩ = false := by subst hX; go_simp
  have l200 : w3.heap.size < X.heap.size := by subst hX; simp <;> omega
  have u1_0 : X.cell? ⟨w3.heap.size + 1, 0, none⟩ = some (.bool (sn b)) := by subst hX; go_simp
  have u1_1 : X.cell? ⟨w3.heap.size + 1, 1, none⟩ = some (.slice A2 (ln (ab b)) (ln (ab b))) := by subst hX; go_simp
  have e1_0 : X.frozen? ⟨w3.heap.size + 1, 0, none⟩ = false := by subst hX; go_simp
  have e1_1 : X.frozen? ⟨w3.heap.size + 1, 1, none⟩ = false := by subst hX; go_simp
  have l201 : w3.heap.size + 1 < X.heap.size := by subst hX; simp <;> omega
  have u2_0 : X.cell? ⟨w3.heap.size + 1 + 1, 0, none⟩ = some (.bool (true)) := by subst hX; go_simp
  have u2_1 : X.cell? ⟨w3.heap.size + 1 + 1, 1, none⟩ = some (.slice A3 (ln (ab d)) (ln (ab d))) := by subst hX; go_simp
  have e2_0 : X.frozen? ⟨w3.heap.size + 1 + 1, 0, none⟩ = false := by subst hX; go_simp
  have e2_1 : X.frozen? ⟨w3.heap.size + 1 + 1, 1, none⟩ = false := by subst hX; go_simp
  have l202 : w3.heap.size + 1 + 1 < X.heap.size := by subst hX; simp <;> omega
  clear hX
  have hb4 := hX3
  clear hX3
  have hp : w.heap.size < w3.heap.size := l0
  replace r0 := keepc hb4 r0 l0
  replace f0 := keepf hb4 f0 l0
  replace r1 := keepc hb4 r1 l0
  replace f1 := keepf hb4 f1 l0
  replace r2 := keepc hb4 r2 l0
  replace f2 := keepf hb4 f2 l0
  replace r3 := keepc hb4 r3 l0
  replace f3 := keepf hb4 f3 l0
  replace r4 := keepc hb4 r4 l0
  replace f4 := keepf hb4 f4 l0
  replace l0 := Nat.lt_of_lt_of_le l0 hb4.size
  replace h1 := h1.to hb4
  replace h2 := h2.to hb4
  replace h3 := h3.to hb4
  replace HW := Lib.hid (hstep HW hb4)
  clear hb4
  generalize w3.heap.size = p at *
  have d0 : p ≠ w.heap.size := by omega
  have d1 : p + 1 ≠ w.heap.size := by omega
  have d2 : p + 1 ≠ p := by omega
  go_region_with (first
    | (go_at_call_of 34 (Value.slice A1 (ln (ab a)) (ln (ab a))); refine (minus_any a A1 _ (by exact h1)).mono ?_; rintro e w5 ⟨M0, rfl, q0, hb5⟩; have hb5 := undrew hb5; replace u0_0 := keepc hb5 u0_0 l200; replace u0_1 := keepc hb5 u0_1 l200; replace u1_0 := keepc hb5 u1_0 l201; replace u1_1 := keepc hb5 u1_1 l201; replace u2_0 := keepc hb5 u2_0 l202; replace u2_1 := keepc hb5 u2_1 l202; replace r0 := keepc hb5 r0 l0; replace f0 := keepf hb5 f0 l0; replace r1 := keepc hb5 r1 l0; replace f1 := keepf hb5 f1 l0; replace r2 := keepc hb5 r2 l0; replace f2 := keepf hb5 f2 l0; replace r3 := keepc hb5 r3 l0; replace f3 := keepf hb5 f3 l0; replace r4 := keepc hb5 r4 l0; replace f4 := keepf hb5 f4 l0; replace e0_0 := keepf hb5 e0_0 l200; replace e0_1 := keepf hb5 e0_1 l200; replace e1_0 := keepf hb5 e1_0 l201; replace e1_1 := keepf hb5 e1_1 l201; replace e2_0 := keepf hb5 e2_0 l202; replace e2_1 := keepf hb5 e2_1 l202; replace l0 := Nat.lt_of_lt_of_le l0 hb5.size; replace l200 := Nat.lt_of_lt_of_le l200 hb5.size; replace l201 := Nat.lt_of_lt_of_le l201 hb5.size; replace l202 := Nat.lt_of_lt_of_le l202 hb5.size; replace h1 := h1.to hb5; replace h2 := h2.to hb5; replace h3 := h3.to hb5; replace HW := Lib.hid (hstep HW hb5); clear hb5)
    | (go_at_call_of 34 (Value.slice A2 (ln (ab b)) (ln (ab b))); refine (minus_any b A2 _ (by exact h2)).mono ?_; rintro e w6 ⟨M1, rfl, q1, hb6⟩; replace u0_0 := keepc hb6 u0_0 l200; replace u0_1 := keepc hb6 u0_1 l200; replace u1_0 := keepc hb6 u1_0 l201; replace u1_1 := keepc hb6 u1_1 l201; replace u2_0 := keepc hb6 u2_0 l202; replace u2_1 := keepc hb6 u2_1 l202; replace r0 := keepc hb6 r0 l0; replace f0 := keepf hb6 f0 l0; replace r1 := keepc hb6 r1 l0; replace f1 := keepf hb6 f1 l0; replace r2 := keepc hb6 r2 l0; replace f2 := keepf hb6 f2 l0; replace r3 := keepc hb6 r3 l0; replace f3 := keepf hb6 f3 l0; replace r4 := keepc hb6 r4 l0; replace f4 := keepf hb6 f4 l0; replace e0_0 := keepf hb6 e0_0 l200; replace e0_1 := keepf hb6 e0_1 l200; replace e1_0 := keepf hb6 e1_0 l201; replace e1_1 := keepf hb6 e1_1 l201; replace e2_0 := keepf hb6 e2_0 l202; replace e2_1 := keepf hb6 e2_1 l202; replace l0 := Nat.lt_of_lt_of_le l0 hb6.size; replace l200 := Nat.lt_of_lt_of_le l200 hb6.size; replace l201 := Nat.lt_of_lt_of_le l201 hb6.size; replace l202 := Nat.lt_of_lt_of_le l202 hb6.size; replace h1 := h1.to hb6; replace h2 := h2.to hb6; replace h3 := h3.to hb6; replace q0 := q0.to hb6; replace HW := Lib.hid (hstep HW hb6); clear hb6))
  all_goals
    go_wp2_with fail
    obtain ⟨X2, hX2⟩ : ∃ X : World, X = set4 w6 p (-a) (-b) M0 M1 := ⟨_, rfl⟩
    have hw : set4 w6 p (-a) (-b) M0 M1 = X2 := hX2.symm
    unfold set4 at hw
    rw [hw]
    clear hw
    replace q0 := set4_nat (z1 := -a) (z2 := -b) (M1 := M0) (M2 := M1) q0 u0_0 u1_0
    rw [← hX2] at q0
    replace q1 := set4_nat (z1 := -a) (z2 := -b) (M1 := M0) (M2 := M1) q1 u0_0 u1_0
    rw [← hX2] at q1
    replace h3 := set4_nat (z1 := -a) (z2 := -b) (M1 := M0) (M2 := M1) h3 u0_0 u1_0
    rw [← hX2] at h3
    replace r0 := set4_cell (z1 := -a) (z2 := -b) (M1 := M0) (M2 := M1) (p := p) r0 (by omega) (by omega)
    rw [← hX2] at r0
    replace f0 := set4_frozen (z1 := -a) (z2 := -b) (M1 := M0) (M2 := M1) (p := p) f0
    rw [← hX2] at f0
    replace r1 := set4_cell (z1 := -a) (z2 := -b) (M1 := M0) (M2 := M1) (p := p) r1 (by omega) (by omega)
    rw [← hX2] at r1
    replace f1 := set4_frozen (z1 := -a) (z2 := -b) (M1 := M0) (M2 := M1) (p := p) f1
    rw [← hX2] at f1
    replace r2 := set4_cell (z1 := -a) (z2 := -b) (M1 := M0) (M2 := M1) (p := p) r2 (by omega) (by omega)
    rw [← hX2] at r2
    replace f2 := set4_frozen (z1 := -a) (z2 := -b) (M1 := M0) (M2 := M1) (p := p) f2
    rw [← hX2] at f2
    replace r3 := set4_cell (z1 := -a) (z2 := -b) (M1 := M0) (M2 := M1) (p := p) r3 (by omega) (by omega)
    rw [← hX2] at r3
    replace f3 := set4_frozen (z1 := -a) (z2 := -b) (M1 := M0) (M2 := M1) (p := p) f3
    rw [← hX2] at f3
    replace r4 := set4_cell (z1 := -a) (z2 := -b) (M1 := M0) (M2 := M1) (p := p) r4 (by omega) (by omega)
    rw [← hX2] at r4
    replace f4 := set4_frozen (z1 := -a) (z2 := -b) (M1 := M0) (M2 := M1) (p := p) f4
    rw [← hX2] at f4
    replace HW := Lib.hid (set4_below (z1 := -a) (z2 := -b) (M1 := M0) (M2 := M1) HW.out (show w.heap.size ≤ p by omega))
    rw [← hX2] at HW
    have l0 : w.heap.size < X2.heap.size := by rw [hX2, set4_size]; exact l0
    clear u0_0 u0_1 u1_0 u1_1 u2_0 u2_1 e0_0 e0_1 e1_0 e1_1 e2_0 e2_1 l200 l201 l202 hX2
    refine (over_any (-a) (-b) (ab d) M0 M1 A3 _ (by exact q0) (by exact q1) (by exact h3) (by rw [ab_neg]; have := ab_small HA.out.1 HA.out.2; omega) (by rw [ab_neg]; have := ab_small HB.out.1 HB.out.2; omega) (by have := ab_small HD.out.1 HD.out.2; omega) HN.out).mono ?_
    rintro e w9 ⟨Z1, Z2, Z3, rfl, h9, hb9⟩
    replace r0 := keepc hb9 r0 l0
    replace f0 := keepf hb9 f0 l0
    replace r1 := keepc hb9 r1 l0
    replace f1 := keepf hb9 f1 l0
    replace r2 := keepc hb9 r2 l0
    replace f2 := keepf hb9 f2 l0
    replace r3 := keepc hb9 r3 l0
    replace f3 := keepf hb9 f3 l0
    replace r4 := keepc hb9 r4 l0
    replace f4 := keepf hb9 f4 l0
    replace HW := Lib.hid (hstep HW hb9)
    go_wp2_with fail
    exact bodyPost_ret (v := .tuple #[.agg #[.bool (sn (na (fr (-a) (-b) (ab d)))), .slice Z1 (ln (ab (na (fr (-a) (-b) (ab d))))) (ln (ab (na (fr (-a) (-b) (ab d))))), .bool (sn (nb (fr (-a) (-b) (ab d)))), .slice Z2 (ln (ab (nb (fr (-a) (-b) (ab d))))) (ln (ab (nb (fr (-a) (-b) (ab d))))), .slice Z3 (ln (un (fr (-a) (-b) (ab d)))) (ln (un (fr (-a) (-b) (ab d))))], .int .i64 0]) (by simp [results, Try.results53, go_sem, r0, r1, r2, r3, r4, f0, f1, f2, f3, f4]) rfl (retNumE_fin HW h9 (by omega) r0)
theorem new_any (a b d : Int) (w : World) (ha : -9223372036854775808 ≤ a ∧ a ≤ 9223372036854775807) (hb : -9223372036854775808 ≤ b ∧ b ≤ 9223372036854775807) (hd : -9223372036854775808 ≤ d ∧ d ≤ 9223372036854775807) (h : d ≠ 0) :
    Calls Try.prog 53 #[.int .i64 a, .int .i64 b, .int .i64 d] w (RetNumE w 0 (frz a b d)) :=
  if h0 : 0 < d then new_pos a b d w ha hb hd h0 else new_neg a b d w ha hb hd (by omega)
end Go.Proofs.Ytdpjknjlhchmcaa

namespace Go.Proofs.Ytdpjknjlhchmcaa
open Go.RowKit Pl
set_option linter.unusedVariables false
set_option linter.unusedSimpArgs false
/-- A Num is stored into the five cells of the block p. -/
def set5 (w : World) (p : Nat) (q : Cx) (A1 A2 A3 : Option Addr) : World :=
  ((((w.setCell ⟨p, 0, none⟩ (.bool (sn (na q)))).setCell ⟨p, 1, none⟩ (.slice A1 (ln (ab (na q))) (ln (ab (na q))))).setCell ⟨p, 2, none⟩ (.bool (sn (nb q)))).setCell ⟨p, 3, none⟩ (.slice A2 (ln (ab (nb q))) (ln (ab (nb q))))).setCell ⟨p, 4, none⟩ (.slice A3 (ln (un q)) (ln (un q)))
theorem set5_size (w : World) (p : Nat) (q : Cx) (A1 A2 A3 : Option Addr) : (set5 w p q A1 A2 A3).heap.size = w.heap.size := by simp [set5, World.setCell]
theorem set5_cell {w : World} {p b i : Nat} {q : Cx} {A1 A2 A3 : Option Addr} {v : Value} (h : w.cell? ⟨b, i, none⟩ = some v) (h1 : b ≠ p) : (set5 w p q A1 A2 A3).cell? ⟨b, i, none⟩ = some v := keepo (keepo (keepo (keepo (keepo h (.inl h1)) (.inl h1)) (.inl h1)) (.inl h1)) (.inl h1)
theorem set5_frozen {w : World} {p b i : Nat} {q : Cx} {A1 A2 A3 : Option Addr} {v : Bool} (h : w.frozen? ⟨b, i, none⟩ = v) : (set5 w p q A1 A2 A3).frozen? ⟨b, i, none⟩ = v := keepof (keepof (keepof (keepof (keepof h))))
theorem set5_below {w W : World} {B p : Nat} {q : Cx} {A1 A2 A3 : Option Addr} (h : Below B w W) (hp : B ≤ p) : Below B w (set5 W p q A1 A2 A3) :=
  ((((h.setCell (by exact hp) _).setCell (by exact hp) _).setCell (by exact hp) _).setCell (by exact hp) _).setCell (by exact hp) _
theorem set5_nat {w : World} {p n : Nat} {q : Cx} {A1 A2 A3 A : Option Addr} {c : Bool} (h : Nat32 w A n) (u : w.cell? ⟨p, 0, none⟩ = some (.bool c)) : Nat32 (set5 w p q A1 A2 A3) A n := by
  have nb : ∀ (b : Bool) k m, Value.bool b ≠ .int k m := by intro b k m e; cases e
  have a1 := cell_self (u := .bool (sn (na q))) u
  have a2 := keepo (R := p) (j := 1) (u := .slice A1 (ln (ab (na q))) (ln (ab (na q)))) a1 (.inr (by omega))
  have a3 := keepo (R := p) (j := 2) (u := .bool (sn (Pl.nb q))) a2 (.inr (by omega))
  have a4 := keepo (R := p) (j := 3) (u := .slice A2 (ln (ab (Pl.nb q))) (ln (ab (Pl.nb q)))) a3 (.inr (by omega))
  exact ((((h.setBox u (nb _)).setBox a1 (nb _)).setBox a2 (nb _)).setBox a3 (nb _)).setBox a4 (nb _)
theorem set5_num3 {w : World} {p : Nat} {q r : Cx} {A1 A2 A3 B1 B2 B3 : Option Addr} {c : Bool} (h : Num3 w B1 B2 B3 r) (u : w.cell? ⟨p, 0, none⟩ = some (.bool c)) : Num3 (set5 w p q A1 A2 A3) B1 B2 B3 r := ⟨set5_nat h.1 u, set5_nat h.2.1 u, set5_nat h.2.2 u⟩
theorem set5_self {w : World} {p : Nat} {q : Cx} {A1 A2 A3 : Option Addr} {v0 v1 v2 v3 v4 : Value} (u0 : w.cell? ⟨p, 0, none⟩ = some v0) (u1 : w.cell? ⟨p, 1, none⟩ = some v1) (u2 : w.cell? ⟨p, 2, none⟩ = some v2) (u3 : w.cell? ⟨p, 3, none⟩ = some v3) (u4 : w.cell? ⟨p, 4, none⟩ = some v4) : Cells5 (set5 w p q A1 A2 A3) p q A1 A2 A3 := by
  unfold set5
  have o0 := cell_self (u := .bool (sn (na q))) u0
  refine ⟨?_, ?_, ?_, ?_, ?_⟩
  · exact keepo (keepo (keepo (keepo o0 (by omega)) (by omega)) (by omega)) (by omega)
  · exact keepo (keepo (keepo (cell_self (keepo u1 (by omega))) (by omega)) (by omega)) (by omega)
  · exact keepo (keepo (cell_self (keepo (keepo u2 (by omega)) (by omega))) (by omega)) (by omega)
  · exact keepo (cell_self (keepo (keepo (keepo u3 (by omega)) (by omega)) (by omega))) (by omega)
  · exact cell_self (keepo (keepo (keepo (keepo u4 (by omega)) (by omega)) (by omega)) (by omega))
set_option maxHeartbeats 4000000 in
theorem of_more (a b d : Int) (w : World) (ha : -9223372036854775808 ≤ a ∧ a ≤ 9223372036854775807) (hb : -9223372036854775808 ≤ b ∧ b ≤ 9223372036854775807) (hd : -9223372036854775808 ≤ d ∧ d ≤ 9223372036854775807) (h : d ≠ 0) :
    Calls Try.prog 24 #[.agg #[.int .i64 a, .int .i64 b, .int .i64 d]] w (RetNum w (frz a b d)) := by
  have HA := Lib.hid ha
  have HB := Lib.hid hb
  have HD := Lib.hid hd
  have H0 := Lib.hid h
  have t : (d == 0) = false := by rw [beq_eq_false_iff_ne]; omega
  clear ha hb hd h
  go_enter Try.func24, Try.ntmps24
  go_wp2_with fail
  obtain ⟨W, hW⟩ : ∃ W : World, W = ((w.alloc (.cells #[.int .i64 a, .int .i64 b, .int .i64 d] 59)).alloc (.cells #[.bool false, .slice none 0 0, .bool false, .slice none 0 0, .slice none 0 0] 34)) := ⟨_, rfl⟩
  have s0_0 : W.cell? ⟨w.heap.size, 0, none⟩ = some (.int .i64 a) := by subst hW; go_simp
  have s0_1 : W.cell? ⟨w.heap.size, 1, none⟩ = some (.int .i64 b) := by subst hW; go_simp
  have s0_2 : W.cell? ⟨w.heap.size, 2, none⟩ = some (.int .i64 d) := by subst hW; go_simp
  have r0 : W.cell? ⟨w.heap.size + 1, 0, none⟩ = some (.bool false) := by subst hW; go_simp
  have f0 : W.frozen? ⟨w.heap.size + 1, 0, none⟩ = false := by subst hW; go_simp
  have r1 : W.cell? ⟨w.heap.size + 1, 1, none⟩ = some (.slice none 0 0) := by subst hW; go_simp
  have f1 : W.frozen? ⟨w.heap.size + 1, 1, none⟩ = false := by subst hW; go_simp
  have r2 : W.cell? ⟨w.heap.size + 1, 2, none⟩ = some (.bool false) := by subst hW; go_simp
  have f2 : W.frozen? ⟨w.heap.size + 1, 2, none⟩ = false := by subst hW; go_simp
  have r3 : W.cell? ⟨w.heap.size + 1, 3, none⟩ = some (.slice none 0 0) := by subst hW; go_simp
  have f3 : W.frozen? ⟨w.heap.size + 1, 3, none⟩ = false := by subst hW; go_simp
  have r4 : W.cell? ⟨w.heap.size + 1, 4, none⟩ = some (.slice none 0 0) := by subst hW; go_simp
  have f4 : W.frozen? ⟨w.heap.size + 1, 4, none⟩ = false := by subst hW; go_simp
  have HW : Below w.heap.size w W := by subst hW; exact (((Below.refl w.heap.size w).alloc (Nat.le_refl _) _).alloc (by simp) _)
  have l0 : w.heap.size < W.heap.size := by subst hW; simp <;> omega
  have l1 : w.heap.size + 1 < W.heap.size := by subst hW; simp
  have n0 : w.heap.size ≠ w.heap.size + 1 := by omega
  rw [← hW]
  clear hW
  replace HW := Lib.hid HW
  refine (new_any a b d _ HA.out HB.out HD.out H0.out).mono ?_
  rintro e w1 ⟨A1, A2, A3, rfl, h1, hb1⟩
  replace s0_0 := keepc hb1 s0_0 l0
  replace s0_1 := keepc hb1 s0_1 l0
  replace s0_2 := keepc hb1 s0_2 l0
  replace r0 := keepc hb1 r0 l1
  replace f0 := keepf hb1 f0 l1
  replace r1 := keepc hb1 r1 l1
  replace f1 := keepf hb1 f1 l1
  replace r2 := keepc hb1 r2 l1
  replace f2 := keepf hb1 f2 l1
  replace r3 := keepc hb1 r3 l1
  replace f3 := keepf hb1 f3 l1
  replace r4 := keepc hb1 r4 l1
  replace f4 := keepf hb1 f4 l1
  replace l0 := Nat.lt_of_lt_of_le l0 hb1.size
  replace l1 := Nat.lt_of_lt_of_le l1 hb1.size
  replace HW := Lib.hid (hstep HW hb1)
  clear hb1
  go_wp2_with fail
  obtain ⟨X, hX⟩ : ∃ X : World, X = set5 w1 (w.heap.size + 1) (frz a b d) A1 A2 A3 := ⟨_, rfl⟩
  have hw : set5 w1 (w.heap.size + 1) (frz a b d) A1 A2 A3 = X := hX.symm
  unfold set5 at hw
  rw [hw]
  clear hw
  have c5 := set5_self (q := (frz a b d)) (A1 := A1) (A2 := A2) (A3 := A3) r0 r1 r2 r3 r4
  rw [← hX] at c5
  have HX : Hid (Below w.heap.size w X) := by rw [hX]; exact Lib.hid (set5_below HW.out (by omega))
  have hx := set5_num3 (q := (frz a b d)) (A1 := A1) (A2 := A2) (A3 := A3) h1 r0
  rw [← hX] at hx
  have lX : w.heap.size + 1 < X.heap.size := by rw [hX, set5_size]; exact l1
  clear hX
  obtain ⟨Y, hY⟩ : ∃ Y : World, Y = X.alloc (.cells #[.bool (sn (na (frz a b d))), .slice A1 (ln (ab (na (frz a b d)))) (ln (ab (na (frz a b d)))), .bool (sn (nb (frz a b d))), .slice A2 (ln (ab (nb (frz a b d)))) (ln (ab (nb (frz a b d)))), .slice A3 (ln (un (frz a b d))) (ln (un (frz a b d)))] 34) := ⟨_, rfl⟩
  have b1 : Below X.heap.size X Y := by rw [hY]; exact (Below.refl _ _).alloc (Nat.le_refl _) _
  rw [← hY]
  clear hY
  have hy := hx.to b1
  have k0 := keepc b1 c5.1 lX
  have k1 := keepc b1 c5.2.1 lX
  have k2 := keepc b1 c5.2.2.1 lX
  have k3 := keepc b1 c5.2.2.2.1 lX
  have k4 := keepc b1 c5.2.2.2.2 lX
  replace HX := Lib.hid (hstep HX b1)
  clear c5 r0 r1 r2 r3 r4 f0 f1 f2 f3 f4 b1
  exact bodyPost_ret (v := .agg #[.bool (sn (na (frz a b d))), .slice A1 (ln (ab (na (frz a b d)))) (ln (ab (na (frz a b d)))), .bool (sn (nb (frz a b d))), .slice A2 (ln (ab (nb (frz a b d)))) (ln (ab (nb (frz a b d)))), .slice A3 (ln (un (frz a b d))) (ln (un (frz a b d)))]) (by simp [results, Try.results24, go_sem, k0, k1, k2, k3, k4]) rfl ⟨A1, A2, A3, rfl, hy, HX.out⟩
set_option maxHeartbeats 4000000 in
theorem of_zero0 (a b : Int) (q : Cx) (w : World) (HN : ∀ w, Calls Try.prog 53 #[.int .i64 a, .int .i64 b, .int .i64 1] w (RetNumE w 0 q)) :
    Calls Try.prog 24 #[.agg #[.int .i64 a, .int .i64 b, .int .i64 0]] w (RetNum w q) := by
  go_enter Try.func24, Try.ntmps24
  go_wp2_with fail
  obtain ⟨W, hW⟩ : ∃ W : World, W = ((w.alloc (.cells #[.int .i64 a, .int .i64 b, .int .i64 1] 59)).alloc (.cells #[.bool false, .slice none 0 0, .bool false, .slice none 0 0, .slice none 0 0] 34)) := ⟨_, rfl⟩
  have s0_0 : W.cell? ⟨w.heap.size, 0, none⟩ = some (.int .i64 a) := by subst hW; go_simp
  have s0_1 : W.cell? ⟨w.heap.size, 1, none⟩ = some (.int .i64 b) := by subst hW; go_simp
  have s0_2 : W.cell? ⟨w.heap.size, 2, none⟩ = some (.int .i64 1) := by subst hW; go_simp
  have r0 : W.cell? ⟨w.heap.size + 1, 0, none⟩ = some (.bool false) := by subst hW; go_simp
  have f0 : W.frozen? ⟨w.heap.size + 1, 0, none⟩ = false := by subst hW; go_simp
  have r1 : W.cell? ⟨w.heap.size + 1, 1, none⟩ = some (.slice none 0 0) := by subst hW; go_simp
  have f1 : W.frozen? ⟨w.heap.size + 1, 1, none⟩ = false := by subst hW; go_simp
  have r2 : W.cell? ⟨w.heap.size + 1, 2, none⟩ = some (.bool false) := by subst hW; go_simp
  have f2 : W.frozen? ⟨w.heap.size + 1, 2, none⟩ = false := by subst hW; go_simp
  have r3 : W.cell? ⟨w.heap.size + 1, 3, none⟩ = some (.slice none 0 0) := by subst hW; go_simp
  have f3 : W.frozen? ⟨w.heap.size + 1, 3, none⟩ = false := by subst hW; go_simp
  have r4 : W.cell? ⟨w.heap.size + 1, 4, none⟩ = some (.slice none 0 0) := by subst hW; go_simp
  have f4 : W.frozen? ⟨w.heap.size + 1, 4, none⟩ = false := by subst hW; go_simp
  have HW : Below w.heap.size w W := by subst hW; exact (((Below.refl w.heap.size w).alloc (Nat.le_refl _) _).alloc (by simp) _)
  have l0 : w.heap.size < W.heap.size := by subst hW; simp <;> omega
  have l1 : w.heap.size + 1 < W.heap.size := by subst hW; simp
  have n0 : w.heap.size ≠ w.heap.size + 1 := by omega
  rw [← hW]
  clear hW
  replace HW := Lib.hid HW
  refine (HN _).mono ?_
  rintro e w1 ⟨A1, A2, A3, rfl, h1, hb1⟩
  replace s0_0 := keepc hb1 s0_0 l0
  replace s0_1 := keepc hb1 s0_1 l0
  replace s0_2 := keepc hb1 s0_2 l0
  replace r0 := keepc hb1 r0 l1
  replace f0 := keepf hb1 f0 l1
  replace r1 := keepc hb1 r1 l1
  replace f1 := keepf hb1 f1 l1
  replace r2 := keepc hb1 r2 l1
  replace f2 := keepf hb1 f2 l1
  replace r3 := keepc hb1 r3 l1
  replace f3 := keepf hb1 f3 l1
  replace r4 := keepc hb1 r4 l1
  replace f4 := keepf hb1 f4 l1
  replace l0 := Nat.lt_of_lt_of_le l0 hb1.size
  replace l1 := Nat.lt_of_lt_of_le l1 hb1.size
  replace HW := Lib.hid (hstep HW hb1)
  clear hb1
  go_wp2_with fail
  obtain ⟨X, hX⟩ : ∃ X : World, X = set5 w1 (w.heap.size + 1) q A1 A2 A3 := ⟨_, rfl⟩
  have hw : set5 w1 (w.heap.size + 1) q A1 A2 A3 = X := hX.symm
  unfold set5 at hw
  rw [hw]
  clear hw
  have c5 := set5_self (q := q) (A1 := A1) (A2 := A2) (A3 := A3) r0 r1 r2 r3 r4
  rw [← hX] at c5
  have HX : Hid (Below w.heap.size w X) := by rw [hX]; exact Lib.hid (set5_below HW.out (by omega))
  have hx := set5_num3 (q := q) (A1 := A1) (A2 := A2) (A3 := A3) h1 r0
  rw [← hX] at hx
  have lX : w.heap.size + 1 < X.heap.size := by rw [hX, set5_size]; exact l1
  clear hX
  obtain ⟨Y, hY⟩ : ∃ Y : World, Y = X.alloc (.cells #[.bool (sn (na q)), .slice A1 (ln (ab (na q))) (ln (ab (na q))), .bool (sn (nb q)), .slice A2 (ln (ab (nb q))) (ln (ab (nb q))), .slice A3 (ln (un q)) (ln (un q))] 34) := ⟨_, rfl⟩
  have b1 : Below X.heap.size X Y := by rw [hY]; exact (Below.refl _ _).alloc (Nat.le_refl _) _
  rw [← hY]
  clear hY
  have hy := hx.to b1
  have k0 := keepc b1 c5.1 lX
  have k1 := keepc b1 c5.2.1 lX
  have k2 := keepc b1 c5.2.2.1 lX
  have k3 := keepc b1 c5.2.2.2.1 lX
  have k4 := keepc b1 c5.2.2.2.2 lX
  replace HX := Lib.hid (hstep HX b1)
  clear c5 r0 r1 r2 r3 r4 f0 f1 f2 f3 f4 b1
  exact bodyPost_ret (v := .agg #[.bool (sn (na q)), .slice A1 (ln (ab (na q))) (ln (ab (na q))), .bool (sn (nb q)), .slice A2 (ln (ab (nb q))) (ln (ab (nb q))), .slice A3 (ln (un q)) (ln (un q))]) (by simp [results, Try.results24, go_sem, k0, k1, k2, k3, k4]) rfl ⟨A1, A2, A3, rfl, hy, HX.out⟩
/-- The number of plain data: a denominator of 0 means 1. -/
def ofv (a b d : Int) : Cx := frz a b (if d = 0 then 1 else d)
theorem of_any (a b d : Int) (w : World) (ha : -9223372036854775808 ≤ a ∧ a ≤ 9223372036854775807) (hb : -9223372036854775808 ≤ b ∧ b ≤ 9223372036854775807) (hd : -9223372036854775808 ≤ d ∧ d ≤ 9223372036854775807) :
    Calls Try.prog 24 #[.agg #[.int .i64 a, .int .i64 b, .int .i64 d]] w (RetNum w (ofv a b d)) := by
  by_cases h : d = 0
  · subst h; exact of_zero0 a b (frz a b 1) w (fun w => new_any a b 1 w ha hb (by omega) (by omega))
  · rw [show ofv a b d = frz a b d by unfold ofv; rw [if_neg h]]; exact of_more a b d w ha hb hd h
theorem sz_frz {a b d : Int} (ha : -9223372036854775808 ≤ a ∧ a ≤ 9223372036854775807) (hb : -9223372036854775808 ≤ b ∧ b ≤ 9223372036854775807) (hd : -9223372036854775808 ≤ d ∧ d ≤ 9223372036854775807) (h : d ≠ 0) : sz 2 (frz a b d) := by
  have xa := ab_small ha.1 ha.2
  have xb := ab_small hb.1 hb.2
  have xd := ab_small hd.1 hd.2
  have h0 : ab d ≠ 0 := by unfold ab; omega
  by_cases hp : 0 < d
  · rw [← frz_pos hp]; exact fr_sz h0 xa xb xd
  · rw [← frz_neg (by omega : d < 0)]; exact fr_sz h0 (by rw [ab_neg]; exact xa) (by rw [ab_neg]; exact xb) xd
theorem sz_of {a b d : Int} (ha : -9223372036854775808 ≤ a ∧ a ≤ 9223372036854775807) (hb : -9223372036854775808 ≤ b ∧ b ≤ 9223372036854775807) (hd : -9223372036854775808 ≤ d ∧ d ≤ 9223372036854775807) : sz 2 (ofv a b d) := by
  unfold ofv
  by_cases h : d = 0
  · rw [if_pos h]; exact sz_frz ha hb (by omega) (by omega)
  · rw [if_neg h]; exact sz_frz ha hb hd h
end Go.Proofs.Ytdpjknjlhchmcaa

namespace Go.Proofs.Ytdpjknjlhchmcaa
open Go.RowKit Pl
set_option linter.unusedVariables false
set_option linter.unusedSimpArgs false
/-- Operation k has come up. -/
def on (l : Array Bool) (k : Nat) : Bool := l.getD k false
theorem on_ne {l : Array Bool} {i k : Nat} (h : on (l.setIfInBounds i true) k = true) (hn : k ≠ i) : on l k = true := by
  unfold on at *
  rw [Array.getD_eq_getD_getElem?, Array.getElem?_setIfInBounds_ne (by omega)] at h
  rw [Array.getD_eq_getD_getElem?]; exact h
theorem on_mono {l : Array Bool} {i k : Nat} (h : on l k = true) : on (l.setIfInBounds i true) k = true := by
  unfold on at *
  rw [Array.getD_eq_getD_getElem?] at *
  by_cases hk : k < l.size
  · have hk2 : k < (l.setIfInBounds i true).size := by simpa using hk
    rw [Array.getElem?_eq_getElem hk, Option.getD_some] at h
    rw [Array.getElem?_eq_getElem hk2, Option.getD_some, Array.getElem_setIfInBounds]
    split
    · rfl
    · exact h
  · rw [Array.getElem?_eq_none (by omega)] at h; cases h
theorem off {l : Array Bool} {i : Nat} (h : l.getD i true = false) : ¬ on l i = true := by
  unfold on
  rw [Array.getD_eq_getD_getElem?] at *
  by_cases hk : i < l.size
  · rw [Array.getElem?_eq_getElem hk, Option.getD_some] at *; rw [h]; simp
  · rw [Array.getElem?_eq_none (by omega)] at h; cases h
theorem not_ready {md : Region.Mode} {ops : Array Oper} {l : Array Bool} {i : Nat} {o : Oper} (hr : Region.ready md ops l = []) (hz : l.size = ops.size) (ho : ops[i]? = some o) (ha : o.after.all (fun e => !Region.binds md e || on l e.on) = true) : on l i = true := by
  by_cases hk : on l i = true
  · exact hk
  · exfalso
    have hi : i < ops.size := (Array.getElem?_eq_some_iff.1 ho).1
    have : i ∈ Region.ready md ops l := by
      unfold Region.ready
      simp only [List.mem_filter, List.mem_range, Bool.and_eq_true, Bool.not_eq_true']
      refine ⟨hi, ?_, ?_⟩
      · unfold on at hk
        rw [Array.getD_eq_getD_getElem?] at *
        rw [Array.getElem?_eq_getElem (by omega), Option.getD_some] at *
        simpa using hk
      · rw [ho]; exact ha
    rw [hr] at this
    cases this
theorem ready_pre {md : Region.Mode} {ops : Array Oper} {l : Array Bool} {i : Nat} (h : i ∈ Region.ready md ops l) :
    i < ops.size ∧ l.getD i true = false ∧ ∀ o, ops[i]? = some o → o.after.all (fun e => !Region.binds md e || on l e.on) = true := by
  unfold Region.ready at h
  simp only [List.mem_filter, List.mem_range, Bool.and_eq_true, Bool.not_eq_true'] at h
  refine ⟨h.1, h.2.1, fun o ho => ?_⟩
  have := h.2.2
  rw [ho] at this
  exact this
theorem wpAny_inv {P : Program} {md : Region.Mode} {ops : Array Oper} {Q : Exit → Act → World → Prop} (I : Array Bool → Act → World → Prop)
    (hstep : ∀ l a w i, i ∈ Region.ready md ops l → I l a w → wpOp P ops Q i (fun a w => I (l.setIfInBounds i true) a w) a w)
    (hend : ∀ l a w, Region.ready md ops l = [] → I l a w → Q .normal a w) :
    ∀ fuel l a w, l.count false ≤ fuel → I l a w → wpAny P md ops Q fuel l a w := by
  have nil : ∀ l : Array Bool, l.count false = 0 → Region.ready md ops l = [] := by
    intro l h
    rw [List.eq_nil_iff_forall_not_mem]
    intro i hi
    have h1 := (ready_pre hi).2.1
    rw [Array.getD_eq_getD_getElem?] at h1
    by_cases hl : i < l.size
    · rw [Array.getElem?_eq_getElem hl, Option.getD_some] at h1
      have : false ∈ l := h1 ▸ Array.getElem_mem hl
      exact absurd h (Nat.ne_of_gt (Array.count_pos_iff.2 this))
    · rw [Array.getElem?_eq_none (by omega)] at h1; cases h1
  intro fuel
  induction fuel with
  | zero => intro l a w hc hI; exact ⟨nil l (by omega), hend l a w (nil l (by omega)) hI⟩
  | succ n ih =>
    intro l a w hc hI
    refine ⟨fun h => hend l a w h hI, fun i hi => wpOp_mono (fun a' w' h' => ih _ a' w' ?_ h') (hstep l a w i hi hI)⟩
    have h1 := (ready_pre hi).2.1
    rw [Array.getD_eq_getD_getElem?] at h1
    by_cases hl : i < l.size
    · rw [Array.getElem?_eq_getElem hl, Option.getD_some] at h1
      have e : l.setIfInBounds i true = l.set i true hl := by simp [Array.setIfInBounds, hl]
      rw [e, Array.count_set, h1]
      have : 0 < l.count false := Array.count_pos_iff.2 (h1 ▸ Array.getElem_mem hl)
      simp; omega
    · rw [Array.getElem?_eq_none (by omega)] at h1; cases h1
theorem wpOp_step {P : Program} {ops : Array Oper} {Q : Exit → Act → World → Prop} {i : Nat} {o : Oper} {a : Act} {w : World} {K' : Act → World → Prop} (ho : ops[i]? = some o)
    (h : ∀ K : Act → World → Prop, (∀ a w, K' a w → K a w) → if Region.wanted o (yielded ops a.tmps) = true then o.wp P a w K Q else K (a.put o.dst undef) w) : wpOp P ops Q i K' a w := by
  have := h K' (fun _ _ h => h)
  unfold wpOp
  rw [ho]
  show if Region.wanted o (yielded ops a.tmps) = true then _ else _
  split
  · rename_i hw; rw [if_pos hw] at this; exact .inl this
  · rename_i hw; rw [if_neg hw] at this; exact this
theorem wpOp_go {P : Program} {ops : Array Oper} {Q : Exit → Act → World → Prop} {i : Nat} {o : Oper} {a : Act} {w : World} {K' : Act → World → Prop} (ho : ops[i]? = some o) (hg : o.guard = none)
    (h : ∀ K : Act → World → Prop, (∀ a w, K' a w → K a w) → o.wp P a w K Q) : wpOp P ops Q i K' a w :=
  wpOp_step ho fun K hK => by rw [if_pos (by simp [Region.wanted, hg])]; exact h K hK
/-- A slot holds a number, a variable for one, a variable that holds one. -/
def SlotNum (w : World) (u : Value) (q : Cx) : Prop := ∃ A1 A2 A3, u = .agg #[.bool (sn (na q)), .slice A1 (ln (ab (na q))) (ln (ab (na q))), .bool (sn (nb q)), .slice A2 (ln (ab (nb q))) (ln (ab (nb q))), .slice A3 (ln (un q)) (ln (un q))] ∧ Num3 w A1 A2 A3 q
def SlotVar (B : Nat) (w : World) (u : Value) : Prop := ∃ g, u = .pointer (some ⟨g, 0, none⟩) ∧ B ≤ g ∧ g < w.heap.size ∧ (∃ c v1 v2 v3 v4, w.cell? ⟨g, 0, none⟩ = some (.bool c) ∧ w.cell? ⟨g, 1, none⟩ = some v1 ∧ w.cell? ⟨g, 2, none⟩ = some v2 ∧ w.cell? ⟨g, 3, none⟩ = some v3 ∧ w.cell? ⟨g, 4, none⟩ = some v4) ∧ (w.frozen? ⟨g, 0, none⟩ = false ∧ w.frozen? ⟨g, 1, none⟩ = false ∧ w.frozen? ⟨g, 2, none⟩ = false ∧ w.frozen? ⟨g, 3, none⟩ = false ∧ w.frozen? ⟨g, 4, none⟩ = false)
def SlotHas (w : World) (u : Value) (q : Cx) : Prop := ∃ g A1 A2 A3, u = .pointer (some ⟨g, 0, none⟩) ∧ g < w.heap.size ∧ Cells5 w g q A1 A2 A3 ∧ Num3 w A1 A2 A3 q
theorem SlotNum.to {w w' : World} {u : Value} {q : Cx} (h : SlotNum w u q) (hb : Below w.heap.size w w') : SlotNum w' u q := by
  obtain ⟨A1, A2, A3, e, h⟩ := h; exact ⟨A1, A2, A3, e, h.to hb⟩
theorem SlotVar.to {B : Nat} {w w' : World} {u : Value} (h : SlotVar B w u) (hb : Below w.heap.size w w') : SlotVar B w' u := by
  obtain ⟨g, e, h1, h2, ⟨c, v1, v2, v3, v4, c0, c1, c2, c3, c4⟩, f0, f1, f2, f3, f4⟩ := h
  exact ⟨g, e, h1, Nat.lt_of_lt_of_le h2 hb.size, ⟨c, v1, v2, v3, v4, keepc hb c0 h2, keepc hb c1 h2, keepc hb c2 h2, keepc hb c3 h2, keepc hb c4 h2⟩, keepf hb f0 h2, keepf hb f1 h2, keepf hb f2 h2, keepf hb f3 h2, keepf hb f4 h2⟩
theorem SlotHas.to {w w' : World} {u : Value} {q : Cx} (h : SlotHas w u q) (hb : Below w.heap.size w w') : SlotHas w' u q := by
  obtain ⟨g, A1, A2, A3, e, h2, ⟨c0, c1, c2, c3, c4⟩, h3⟩ := h
  exact ⟨g, A1, A2, A3, e, Nat.lt_of_lt_of_le h2 hb.size, ⟨keepc hb c0 h2, keepc hb c1 h2, keepc hb c2 h2, keepc hb c3 h2, keepc hb c4 h2⟩, h3.to hb⟩
theorem SlotVar.new {B : Nat} {w : World} {T : TypeId} (hB : B ≤ w.heap.size) : SlotVar B (w.alloc (.cells #[.bool false, .slice none 0 0, .bool false, .slice none 0 0, .slice none 0 0] T)) (.pointer (some ⟨w.heap.size, 0, none⟩)) :=
  ⟨w.heap.size, rfl, hB, by simp, ⟨false, .slice none 0 0, .bool false, .slice none 0 0, .slice none 0 0, by go_simp, by go_simp, by go_simp, by go_simp, by go_simp⟩, by go_simp, by go_simp, by go_simp, by go_simp, by go_simp⟩
theorem SlotVar.ne {B : Nat} {w : World} {u : Value} (h : SlotVar B w u) : u ≠ .pointer (some ⟨w.heap.size, 0, none⟩) := by
  obtain ⟨g, e, h1, h2, _⟩ := h
  intro e2; rw [e] at e2
  injection e2 with e2; injection e2 with e2; injection e2 with e2; omega
/-- A store into a variable's cells: what stays. -/
theorem SlotNum.set5 {w : World} {u : Value} {q r : Cx} {p : Nat} {A1 A2 A3 : Option Addr} {c : Bool} (h : SlotNum w u r) (k : w.cell? ⟨p, 0, none⟩ = some (.bool c)) : SlotNum (set5 w p q A1 A2 A3) u r := by
  obtain ⟨B1, B2, B3, e, h⟩ := h; exact ⟨B1, B2, B3, e, set5_num3 h k⟩
theorem SlotVar.set5 {B : Nat} {w : World} {u : Value} {q : Cx} {p : Nat} {A1 A2 A3 : Option Addr} (h : SlotVar B w u) (hn : u ≠ .pointer (some ⟨p, 0, none⟩)) : SlotVar B (set5 w p q A1 A2 A3) u := by
  obtain ⟨g, e, h1, h2, ⟨c, v1, v2, v3, v4, c0, c1, c2, c3, c4⟩, f0, f1, f2, f3, f4⟩ := h
  have n : g ≠ p := by rintro rfl; exact hn e
  exact ⟨g, e, h1, by rw [set5_size]; exact h2, ⟨c, v1, v2, v3, v4, set5_cell c0 n, set5_cell c1 n, set5_cell c2 n, set5_cell c3 n, set5_cell c4 n⟩, set5_frozen f0, set5_frozen f1, set5_frozen f2, set5_frozen f3, set5_frozen f4⟩
theorem SlotHas.set5 {w : World} {u : Value} {q r : Cx} {p : Nat} {A1 A2 A3 : Option Addr} {c : Bool} (h : SlotHas w u r) (hn : u ≠ .pointer (some ⟨p, 0, none⟩)) (k : w.cell? ⟨p, 0, none⟩ = some (.bool c)) : SlotHas (set5 w p q A1 A2 A3) u r := by
  obtain ⟨g, B1, B2, B3, e, h2, ⟨c0, c1, c2, c3, c4⟩, h3⟩ := h
  have n : g ≠ p := by rintro rfl; exact hn e
  exact ⟨g, B1, B2, B3, e, by rw [set5_size]; exact h2, ⟨set5_cell c0 n, set5_cell c1 n, set5_cell c2 n, set5_cell c3 n, set5_cell c4 n⟩, set5_num3 h3 k⟩
end Go.Proofs.Ytdpjknjlhchmcaa

namespace Go.Proofs.Ytdpjknjlhchmcaa
open Go.RowKit Pl
set_option linter.unusedVariables false
set_option linter.unusedSimpArgs false
/-- A number in a local variable. -/
def VarAt (w : World) (g : Nat) (q : Cx) (A1 A2 A3 : Option Addr) : Prop := g < w.heap.size ∧ Cells5 w g q A1 A2 A3 ∧ Num3 w A1 A2 A3 q
theorem VarAt.to {w w' : World} {g : Nat} {q : Cx} {A1 A2 A3 : Option Addr} (h : VarAt w g q A1 A2 A3) (hb : Below w.heap.size w w') : VarAt w' g q A1 A2 A3 := by
  obtain ⟨h2, ⟨c0, c1, c2, c3, c4⟩, h3⟩ := h
  exact ⟨Nat.lt_of_lt_of_le h2 hb.size, ⟨keepc hb c0 h2, keepc hb c1 h2, keepc hb c2 h2, keepc hb c3 h2, keepc hb c4 h2⟩, h3.to hb⟩
theorem SlotHas.at {w : World} {u : Value} {q : Cx} (h : SlotHas w u q) : ∃ g A1 A2 A3, u = .pointer (some ⟨g, 0, none⟩) ∧ VarAt w g q A1 A2 A3 := by
  obtain ⟨g, A1, A2, A3, e, h2, h5, h3⟩ := h; exact ⟨g, A1, A2, A3, e, h2, h5, h3⟩
theorem same_to (x y : Cx) (A1 A2 A3 B1 B2 B3 : Option Addr) (w : World) (hx : Num3 w A1 A2 A3 x) (hy : Num3 w B1 B2 B3 y) (hsx : sz 137438953472 x) (hsy : sz 137438953472 y) {b : Bool} (h : decide (x = y) = b) :
    Calls Try.prog 11 #[.agg #[.bool (sn (na x)), .slice A1 (ln (ab (na x))) (ln (ab (na x))), .bool (sn (nb x)), .slice A2 (ln (ab (nb x))) (ln (ab (nb x))), .slice A3 (ln (un x)) (ln (un x))], .agg #[.bool (sn (na y)), .slice B1 (ln (ab (na y))) (ln (ab (na y))), .bool (sn (nb y)), .slice B2 (ln (ab (nb y))) (ln (ab (nb y))), .slice B3 (ln (un y)) (ln (un y))]] w (RetBool w b) := h ▸ same_any x y A1 A2 A3 B1 B2 B3 w hx hy hsx hsy
theorem clear_to (x : Cx) (A1 A2 A3 : Option Addr) (w : World) (hx : Num3 w A1 A2 A3 x) (hsx : sz 1099511627776 x) {b : Bool} (h : (!decide (x = Cx.zero)) = b) :
    Calls Try.prog 17 #[.agg #[.bool (sn (na x)), .slice A1 (ln (ab (na x))) (ln (ab (na x))), .bool (sn (nb x)), .slice A2 (ln (ab (nb x))) (ln (ab (nb x))), .slice A3 (ln (un x)) (ln (un x))]] w (RetBool w b) := h ▸ clear_any x A1 A2 A3 w hx hsx
theorem sz_sub {K : Nat} {x y : Cx} (hx : sz K x) (hy : sz K y) : sz (2 * K + 1) (x.sub y) := sz_add hx (sz_neg hy)
theorem sz_norm {K : Nat} {x : Cx} (hx : sz K x) : sz (2 * K + 1) x.norm := by
  rw [← norm_fr]
  have h1 := ab_mul_ln hx.1 hx.1
  have h2 := ab_mul_ln hx.2.1 hx.2.1
  have h3 := ab_add_ln h1 h2
  refine fr_sz (Nat.mul_ne_zero (nd_ne0 x) (nd_ne0 x)) (by omega) (by show ln 0 ≤ _; rw [ln_zero]; omega) ?_
  have := nat_mul_ln hx.2.2 hx.2.2
  omega
theorem sz_int {n : Int} {K : Nat} (h : ln (ab n) ≤ K) (h1 : 1 ≤ K) : sz K (Cx.ofInt n) := by
  obtain ⟨e1, e2, e3⟩ := ofInt_form n
  refine ⟨by rw [e1]; exact h, by rw [e2]; show ln 0 ≤ K; rw [ln_zero]; omega, by rw [e3, ln_one]; exact h1⟩
theorem sz_int0 : sz 1 (Cx.ofInt 0) := sz_int (by show ln 0 ≤ 1; rw [ln_zero]; omega) (by omega)
/-- The order of two rational numbers, as -1, 0, 1. -/
def cmpR (r s : Rat) : Int := if r < s then -1 else if r = s then 0 else 1
theorem cross_lt {a b : Int} {d e : Nat} {r s : Rat} (hd : 0 < d) (he : 0 < e) (h : (a : Rat) = r * (d : Rat)) (k : (b : Rat) = s * (e : Rat)) : (a * (e : Int) < b * (d : Int) ↔ r < s) ∧ (a * (e : Int) = b * (d : Int) ↔ r = s) := by
  have hd' : (0 : Rat) < (d : Rat) := by exact_mod_cast hd
  have he' : (0 : Rat) < (e : Rat) := by exact_mod_cast he
  have p : (0 : Rat) < (d : Rat) * (e : Rat) := Rat.mul_pos hd' he'
  have e1 : ((a * (e : Int) : Int) : Rat) = r * ((d : Rat) * (e : Rat)) := by rw [Rat.intCast_mul, h, Rat.intCast_natCast]; grind
  have e2 : ((b * (d : Int) : Int) : Rat) = s * ((d : Rat) * (e : Rat)) := by rw [Rat.intCast_mul, k, Rat.intCast_natCast]; grind
  generalize (d : Rat) * (e : Rat) = m at *
  generalize a * (e : Int) = u at *
  generalize b * (d : Int) = v at *
  constructor
  · rw [← Rat.intCast_lt_intCast, e1, e2]
    exact Rat.mul_lt_mul_right p
  · rw [← Rat.intCast_inj, e1, e2]
    constructor
    · intro q; have : m ≠ 0 := by grind
      grind
    · rintro rfl; rfl
theorem cmpZ_cross {a b : Int} {d e : Nat} {r s : Rat} (hd : 0 < d) (he : 0 < e) (h : (a : Rat) = r * (d : Rat)) (k : (b : Rat) = s * (e : Rat)) : cmpZ (a * (e : Int)) (b * (d : Int)) = cmpR r s := by
  obtain ⟨h1, h2⟩ := cross_lt hd he h k
  unfold cmpZ cmpR
  by_cases c : r < s
  · rw [if_pos (h1.2 c), if_pos c]
  · rw [if_neg (fun q => c (h1.1 q)), if_neg c]
    by_cases c2 : r = s
    · rw [if_pos (h2.2 c2), if_pos c2]
    · rw [if_neg (fun q => c2 (h2.1 q)), if_neg c2]
theorem cmpC_rat (x y : Cx) : cmpC x y = if x.re = y.re then cmpR x.im y.im else cmpR x.re y.re := by
  have h := (cross_lt (nd_pos x) (nd_pos y) (na_eq x) (na_eq y)).2
  by_cases c : x.re = y.re
  · rw [if_pos c, cmpC_im (h.2 c)]; exact cmpZ_cross (nd_pos x) (nd_pos y) (nb_eq x) (nb_eq y)
  · rw [if_neg c, cmpC_re (fun q => c (h.1 q))]; exact cmpZ_cross (nd_pos x) (nd_pos y) (na_eq x) (na_eq y)
end Go.Proofs.Ytdpjknjlhchmcaa

namespace Go.Proofs.Ytdpjknjlhchmcaa
open Go.RowKit Pl
set_option linter.unusedVariables false
set_option linter.unusedSimpArgs false
set_option maxHeartbeats 4000000 in
theorem clos2 (w : World) (R : Option Addr) (k gn : Nat) (mn : w.cell? ⟨gn, 0, none⟩ = some (.int .i64 2)) :
    Calls Try.prog 54 #[.slice R 2 k, .pointer (some ⟨gn, 0, none⟩)] w fun e w' => e = .returned (.bool false) ∧ w' = w := by
  go_enter Try.func54, Try.ntmps54
  go_wp2_with fail
  go_ret
  exact ⟨rfl, rfl⟩
set_option maxHeartbeats 4000000 in
theorem index2 (w : World) (b g0 g1 k0 k1 c gn : Nat) (m0 : w.cell? ⟨b, 0, none⟩ = some (.slice (some ⟨g0, 0, none⟩) 2 k0)) (m1 : w.cell? ⟨b, 1, none⟩ = some (.slice (some ⟨g1, 0, none⟩) 2 k1)) (mn : w.cell? ⟨gn, 0, none⟩ = some (.int .i64 2)) :
    Calls Try.prog 45 #[.slice (some ⟨b, 0, none⟩) 2 c, .func (.func 54) #[] #[.pointer (some ⟨gn, 0, none⟩)]] w fun e w' => e = .returned (.int .i64 (-1)) ∧ w' = w := by
  go_enter Try.func45, Try.ntmps45
  go_wp2_with fail
  refine wp_loop_rounds 3 ?_
  rw [rounds_succ]
  go_wp2_with fail
  refine (clos2 w (some ⟨g0, 0, none⟩) k0 gn mn).mono ?_
  rintro e w1 ⟨rfl, rfl⟩
  go_wp2_with fail
  rw [rounds_succ]
  go_wp2_with fail
  refine (clos2 w1 (some ⟨g1, 0, none⟩) k1 gn mn).mono ?_
  rintro e w2 ⟨rfl, rfl⟩
  go_wp2_with fail
  rw [rounds_succ]
  go_wp2_with fail
  go_ret
  exact ⟨rfl, rfl⟩
set_option maxHeartbeats 4000000 in
theorem contains2 (w : World) (b g0 g1 k0 k1 c gn : Nat) (m0 : w.cell? ⟨b, 0, none⟩ = some (.slice (some ⟨g0, 0, none⟩) 2 k0)) (m1 : w.cell? ⟨b, 1, none⟩ = some (.slice (some ⟨g1, 0, none⟩) 2 k1)) (mn : w.cell? ⟨gn, 0, none⟩ = some (.int .i64 2)) :
    Calls Try.prog 29 #[.slice (some ⟨b, 0, none⟩) 2 c, .func (.func 54) #[] #[.pointer (some ⟨gn, 0, none⟩)]] w fun e w' => e = .returned (.bool false) ∧ w' = w := by
  go_enter Try.func29, Try.ntmps29
  go_wp2_with fail
  refine (index2 w b g0 g1 k0 k1 c gn m0 m1 mn).mono ?_
  rintro e w2 ⟨rfl, rfl⟩
  go_wp2_with fail
  go_ret
  exact ⟨rfl, rfl⟩
set_option maxHeartbeats 4000000 in
theorem columns2 (w : World) (b g0 g1 k0 k1 c : Nat) (m0 : w.cell? ⟨b, 0, none⟩ = some (.slice (some ⟨g0, 0, none⟩) 2 k0)) (m1 : w.cell? ⟨b, 1, none⟩ = some (.slice (some ⟨g1, 0, none⟩) 2 k1)) (hb : b < w.heap.size) :
    Calls Try.prog 25 #[.slice (some ⟨b, 0, none⟩) 2 c] w fun e w' => e = .returned (.tuple #[.int .i64 2, .bool true]) ∧ Below w.heap.size w w' := by
  go_enter Try.func25, Try.ntmps25
  go_wp2_with fail
  obtain ⟨X, hX⟩ : ∃ X : World, X = w.alloc (.cells #[.int .i64 2] 3) := ⟨_, rfl⟩
  have hb1 : Below w.heap.size w X := by rw [hX]; exact (Below.refl _ _).alloc (Nat.le_refl _) _
  have mn : X.cell? ⟨w.heap.size, 0, none⟩ = some (.int .i64 2) := by subst hX; go_simp
  replace m0 := keepc hb1 m0 hb
  replace m1 := keepc hb1 m1 hb
  rw [← hX]
  clear hX
  have HB := Lib.hid hb1
  clear hb1
  go_region_held3 (fun w' => w'.cell? ⟨w.heap.size, 0, none⟩ = some (.int .i64 2)) (first | exact mn) (first
    | (go_at_call 29; refine (contains2 _ b g0 g1 k0 k1 c w.heap.size (by exact m0) (by exact m1) (by exact mn)).mono ?_; rintro e w2 ⟨rfl, rfl⟩))
  go_wp2_with fail
  refine bodyPost_ret (v := .tuple #[.int .i64 2, .bool true]) (by simp [results, Try.results25, go_sem]) rfl ?_
  exact ⟨rfl, ⟨HB.out.os, HB.out.tape, HB.out.output, HB.out.size, HB.out.block⟩⟩
set_option maxHeartbeats 4000000 in
theorem square2 (w : World) (b g0 g1 k0 k1 c : Nat) (m0 : w.cell? ⟨b, 0, none⟩ = some (.slice (some ⟨g0, 0, none⟩) 2 k0)) (m1 : w.cell? ⟨b, 1, none⟩ = some (.slice (some ⟨g1, 0, none⟩) 2 k1)) (hb : b < w.heap.size) :
    Calls Try.prog 26 #[.slice (some ⟨b, 0, none⟩) 2 c] w fun e w' => e = .returned (.bool true) ∧ Below w.heap.size w w' := by
  go_enter Try.func26, Try.ntmps26
  go_wp2_with fail
  refine (columns2 w b g0 g1 k0 k1 c m0 m1 hb).mono ?_
  rintro e w2 ⟨rfl, hb2⟩
  go_wp2_with fail
  go_ret
  exact ⟨rfl, hb2⟩
end Go.Proofs.Ytdpjknjlhchmcaa

namespace Go.Proofs.Ytdpjknjlhchmcaa
open Go.RowKit Pl
set_option linter.unusedVariables false
set_option linter.unusedSimpArgs false
/-- The first k and the last k of m cells are exchanged. -/
def revF (f : Nat → Value) (m k t : Nat) : Value := if t < k ∨ (m - k ≤ t ∧ t < m) then f (m - 1 - t) else f t
set_option maxHeartbeats 4000000 in
theorem rev_any (w : World) (g m cap : Nat) (f : Nat → Value) (h : w.rowIs g 5 cap f) (bv : Nat → Int) (hv : ∀ t, t < m → f t = .int .u8 (bv t)) (hm : 0 < m) (hmc : m ≤ cap) (hm2 : m ≤ 140737488355328) :
    Calls Try.prog 83 #[.slice (some ⟨g, 0, none⟩) m cap] w fun e w' => e = .returned (.tuple #[]) ∧ w'.rowIs g 5 cap (fun t => if t < m then f (m - 1 - t) else f t) ∧ Below g w w' ∧ w'.heap.size = w.heap.size := by
  obtain ⟨p, hp⟩ : ∃ p, m = p + 1 := ⟨m - 1, by omega⟩
  subst hp
  have HV := Lib.hid hv
  have HM := Lib.hid hm2
  have HC := Lib.hid hmc
  have hp2 : p ≤ 140737488355327 := by omega
  clear hm hm2 hmc hv
  go_enter Try.func83, Try.ntmps83
  go_wp2_with fail
  go_loopw [2, 3] (fun i j wr => ∃ k l : Nat, i = .int .i64 (k : Int) ∧ j = .int .i64 (l : Int) ∧ Hid (k + l = p) ∧ Hid (k ≤ l + 1) ∧ wr.rowIs g 5 cap (revF f (p + 1) k) ∧ Below g w wr ∧ Hid (wr.heap.size = w.heap.size)) (fun i j _ => (intOf j).toNat + 1 - (intOf i).toNat)
  case atStart => exact ⟨0, p, rfl, by first | (simp [wrap64]; done) | (simp [wrap64]; omega), Lib.hid (by omega), Lib.hid (by omega), h.congr (fun t ht => by unfold revF; rw [if_neg (by omega)]), Below.refl _ _, Lib.hid rfl⟩
  case round =>
    obtain ⟨k, l, rfl, rfl, hkl, hk1, hrow, hb, hsz⟩ := hrel
    clear h
    have HB := Lib.hid hb
    have HR : Hid (wr.rowIs g 5 cap (revF f (p + 1) k)) := Lib.hid hrow
    clear hb
    by_cases hlt : k < l
    · have t1 : decide ((k : Int) < (l : Int)) = true := by rw [decide_eq_true_eq]; omega
      have ck : wr.cell? ⟨g, k, none⟩ = some (.int .u8 (bv k)) := by
        rw [hrow.cell (i := k) (by have := HC.out; have := hkl.out; omega)]
        unfold revF; rw [if_neg (by have := hkl.out; omega), HV.out k (by have := hkl.out; omega)]
      have cl : wr.cell? ⟨g, l, none⟩ = some (.int .u8 (bv l)) := by
        rw [hrow.cell (i := l) (by have := HC.out; have := hkl.out; omega)]
        unfold revF; rw [if_neg (by have := hkl.out; omega), HV.out l (by have := hkl.out; omega)]
      have fk := hrow.frozen k
      have fl := hrow.frozen l
      have b1 : (k : Int) < (p : Int) + 1 := by have := hkl.out; omega
      have b2 : (l : Int) < (p : Int) + 1 := by have := hkl.out; omega
      have b3 : (0 : Int) ≤ (k : Int) := by omega
      have b4 : (0 : Int) ≤ (l : Int) := by omega
      have HT := Lib.hid hlt
      clear hrow hlt
      go_wp2_with fail
      go_region
      obtain ⟨l', hl'⟩ : ∃ l', l = l' + 1 := ⟨l - 1, by have := HT.out; omega⟩
      subst hl'
      have HF : Hid ((((wr.setCell ⟨g, k, none⟩ (.int .u8 (bv (l' + 1)))).setCell ⟨g, l' + 1, none⟩ (.int .u8 (bv k))).drew).rowIs g 5 cap (revF f (p + 1) (k + 1))) := Lib.hid (((HR.out.set k _).set (l' + 1) _).drew.congr (fun t ht => by
        have e1 := hkl.out
        have e2 := HT.out
        unfold revF
        by_cases c1 : t = l' + 1
        · rw [if_pos c1, if_pos (by omega), c1, show p + 1 - 1 - (l' + 1) = k by omega, HV.out k (by omega)]
        · rw [if_neg c1]
          by_cases c2 : t = k
          · rw [if_pos c2, if_pos (by omega), c2, show p + 1 - 1 - k = l' + 1 by omega, HV.out (l' + 1) (by omega)]
          · rw [if_neg c2]
            by_cases c3 : t < k ∨ (p + 1 - k ≤ t ∧ t < p + 1)
            · rw [if_pos c3, if_pos (by omega)]
            · rw [if_neg c3, if_neg (by omega)]))
      have HB2 : Hid (Below g w (((wr.setCell ⟨g, k, none⟩ (.int .u8 (bv (l' + 1)))).setCell ⟨g, l' + 1, none⟩ (.int .u8 (bv k))).drew)) := Lib.hid (by
        have h1 := (HB.out.setCell (p := ⟨g, k, none⟩) (Nat.le_refl g) (.int .u8 (bv (l' + 1)))).setCell (p := ⟨g, l' + 1, none⟩) (Nat.le_refl g) (.int .u8 (bv k))
        exact ⟨h1.os, h1.tape, h1.output, h1.size, h1.block⟩)
      have HS2 : Hid ((((wr.setCell ⟨g, k, none⟩ (.int .u8 (bv (l' + 1)))).setCell ⟨g, l' + 1, none⟩ (.int .u8 (bv k))).drew).heap.size = w.heap.size) := Lib.hid (by have := hsz.out; simpa [World.setCell, World.drew] using this)
      generalize (((wr.setCell ⟨g, k, none⟩ (.int .u8 (bv (l' + 1)))).setCell ⟨g, l' + 1, none⟩ (.int .u8 (bv k))).drew) = X at *
      clear ck cl fk fl b1 b2 b3 b4
      have b5 : k ≤ p := by have := hkl.out; omega
      have b6 : l' ≤ p := by have := hkl.out; omega
      go_wp2_with fail
      go_roundw
      case rel => exact ⟨k + 1, l', by simp, by simp, Lib.hid (by have := hkl.out; omega), Lib.hid (by have := HT.out; omega), HF.out, HB2.out, HS2⟩
      case measure => have := HT.out; simp [intOf]; omega
    · have t1 : decide ((k : Int) < (l : Int)) = false := by rw [decide_eq_false_iff_not]; omega
      have HT := Lib.hid hlt
      clear hrow hlt
      go_wp2_with fail
      go_end0
      refine ⟨rfl, HR.out.congr (fun t ht => ?_), HB.out, hsz.out⟩
      have e1 := hkl.out
      have e2 := HT.out
      have e3 := hk1.out
      unfold revF
      by_cases c : t < p + 1
      · rw [if_pos c]
        by_cases c3 : t < k ∨ (p + 1 - k ≤ t ∧ t < p + 1)
        · rw [if_pos c3]
        · rw [if_neg c3, show p + 1 - 1 - t = t by omega]
      · rw [if_neg c, if_neg (by omega)]
end Go.Proofs.Ytdpjknjlhchmcaa

namespace Go.Proofs.Ytdpjknjlhchmcaa
open Go.RowKit Pl
set_option linter.unusedVariables false
set_option linter.unusedSimpArgs false
/-- The decimal digits, the lowest one first. -/
def rd (n : Nat) : List Nat := if h : n = 0 then [] else n % 10 :: rd (n / 10)
termination_by n
decreasing_by omega
theorem rd_zero : rd 0 = [] := by rw [rd]; rfl
theorem rd_pos {n : Nat} (h : n ≠ 0) : rd n = n % 10 :: rd (n / 10) := by rw [rd, dif_neg h]
theorem rd_len {k : Nat} : ∀ {n : Nat}, n < 10 ^ k → (rd n).length ≤ k := by
  induction k with
  | zero => intro n h; have : n = 0 := by simpa using h
            subst this; rw [rd_zero]; simp
  | succ k ih =>
    intro n h
    by_cases hn : n = 0
    · subst hn; rw [rd_zero]; simp
    · rw [rd_pos hn, List.length_cons]
      have : n / 10 < 10 ^ k := by rw [Nat.div_lt_iff_lt_mul (by omega)]; rwa [Nat.pow_succ] at h
      have := ih this
      omega
theorem rd_ln (n : Nat) : (rd n).length ≤ 10 * ln n := by
  refine rd_len ?_
  have h := lt_of_ln (Nat.le_refl (ln n))
  rw [Nat.pow_mul]
  exact Nat.lt_of_lt_of_le h (Nat.pow_le_pow_left (by decide) _)
/-- One digit is taken. -/
theorem rd_step {q r m : Nat} (h : q ≠ 0 ∨ r ≠ 0) : rd (q * 10 ^ (m + 1) + r) = r % 10 :: rd (q * 10 ^ m + r / 10) := by
  have h0 : q * 10 ^ (m + 1) + r ≠ 0 := by
    rcases h with h | h
    · have : 0 < q * 10 ^ (m + 1) := Nat.mul_pos (Nat.pos_of_ne_zero h) (Nat.pow_pos (by omega))
      omega
    · omega
  have e : q * 10 ^ (m + 1) + r = 10 * (q * 10 ^ m) + r := by rw [Nat.pow_succ, ← Nat.mul_assoc, Nat.mul_comm]
  rw [rd_pos h0, e, Nat.mul_add_mod, Nat.mul_add_div (by omega)]
/-- The cells of digits. -/
def dcells (l : List Nat) : List Value := l.map fun d => .int .u8 ((48 + d : Nat) : Int)
theorem dcells_app (l : List Nat) (d : Nat) : dcells (l ++ [d]) = dcells l ++ [.int .u8 ((48 + d : Nat) : Int)] := by simp [dcells]
theorem Try.info_u8 : (Try.prog.info? 5).map (fun i => (i.zero, i.size, i.bytes)) = some (some (.int .u8 0), 1, 1) := by kernel_rfl
theorem Try.und_bytes : Try.prog.underlying 116 = some (.slice 5) := by kernel_rfl
theorem own_below {w w' : World} {b : Nat} {e : TypeId} {z : Nat} {v : Value} {n : Nat} {xs : List Value} (h : w.ownsRow b e z v n xs) (hb : Below w.heap.size w w') : w'.ownsRow b e z v n xs :=
  h.kept (row := none) ⟨hb.os, hb.tape, hb.output, hb.size, fun k hk _ => hb.block k hk⟩ (Decidable.em _)
theorem nat_grown {W W' : World} {b : Nat} {v : Value} {m n : Nat} {ds : List Nat} {A : Option Addr} (h : Nat32 W A n) (ho : W.ownsRow b 5 1 v m (dcells ds)) (hne : v = .slice none 0 0 ∨ ds ≠ []) (hg : W.grownBy W' v.ownBlock) : Nat32 W' A n := fun hn => by
  obtain ⟨g, e, hl, hc⟩ := h hn
  refine ⟨g, e, Nat.lt_of_lt_of_le hl hg.size, fun j hj => ?_⟩
  refine hg.cell (hc j hj) ?_
  show some g ≠ v.ownBlock
  intro e2
  rcases hne with rfl | hne
  · cases e2
  · have h0 := hc 0 (by omega)
    cases ds with
    | nil => exact hne rfl
    | cons d ds =>
      have := ho.cells e2.symm 0 (.int .u8 ((48 + d : Nat) : Int)) (by simp [dcells])
      rw [show (⟨g, 0, none⟩ : Addr).add 0 = ⟨g, 0, none⟩ by simp [Addr.add], h0] at this
      injection this with this; injection this with this; cases this
/-- The text of a number. -/
def dec (n : Nat) : ByteArray := if n = 0 then ⟨#[48]⟩ else ((rd n).reverse.map fun d => ((48 + d : Nat) : Int)).foldl (fun r n => r.push (UInt8.ofNat n.toNat)) ByteArray.empty
def RetStr (w : World) (s : ByteArray) (e : Ending) (w' : World) : Prop := e = .returned (.string s) ∧ Below w.heap.size w w'
theorem own_row {w : World} {b : Nat} {v : Value} {ds : List Nat} (h : w.ownsRow b 5 1 v ds.length (dcells ds)) (hne : ds ≠ []) :
    ∃ g cap f, v = .slice (some ⟨g, 0, none⟩) ds.length cap ∧ b ≤ g ∧ ds.length ≤ cap ∧ w.rowIs g 5 cap f ∧ ∀ t, t < ds.length → f t = .int .u8 ((48 + ds.getD t 0 : Nat) : Int) := by
  rcases h.2 with ⟨_, h0⟩ | ⟨g, cap, cur, hv, hb, hg, hn, _, hs, ht⟩
  · exact absurd (List.length_eq_zero_iff.1 h0) hne
  · refine ⟨g, cap, fun i => cur.getD i undef, hv, hb, hn, ⟨cur, hg, by omega, fun i hi => ?_⟩, fun t ht2 => ?_⟩
    · show cur[i]? = some (cur.getD i undef)
      rw [Array.getD_eq_getD_getElem?, Array.getElem?_eq_getElem (by omega)]; rfl
    · have e : (cur.toList.take (ds.length * 1))[t]? = (dcells ds)[t]? := by rw [ht]
      rw [List.getElem?_take_of_lt (by omega)] at e
      show cur.getD t undef = _
      rw [Array.getD_eq_getD_getElem?, ← Array.getElem?_toList, e]
      simp [dcells, List.getElem?_eq_getElem ht2]
theorem rev_cells {w : World} {g cap : Nat} {ds : List Nat} {f : Nat → Value} (h : w.rowIs g 5 cap (fun t => if t < ds.length then f (ds.length - 1 - t) else f t)) (hc : ds.length ≤ cap) (hf : ∀ t, t < ds.length → f t = .int .u8 ((48 + ds.getD t 0 : Nat) : Int)) (c : Nat) :
    (convert 116 9 (.slice (some ⟨g, 0, none⟩) ds.length c)).run Try.prog w = .ok (.string ((ds.reverse.map fun d => ((48 + d : Nat) : Int)).foldl (fun r n => r.push (UInt8.ofNat n.toNat)) ByteArray.empty)) w := by
  rw [run_convert_bytes_string w 116 9 5 _ _ _ Try.und_bytes (by kernel_rfl) (by kernel_rfl)]
  refine run_bytesToString w _ _ _ _ ?_
  have := run_loadCells_list (P := Try.prog) (w := w) ⟨g, 0, none⟩ ((ds.reverse.map fun d => ((48 + d : Nat) : Int)).map (Value.int .u8)) ?_
  · simpa using this
  · intro j v hj
    have hlt : j < ds.length := by
      have := (List.getElem?_eq_some_iff.1 hj).1
      simpa using this
    have e : (⟨g, 0, none⟩ : Addr).add j = ⟨g, j, none⟩ := by simp only [Addr.add]; split <;> simp_all
    rw [e, h.cell (i := j) (by omega)]
    simp only [hlt, if_true]
    rw [hf _ (by omega)]
    rw [← hj]
    simp only [List.map_map, List.getElem?_map, List.getElem?_reverse hlt, List.getElem?_eq_getElem (show ds.length - 1 - j < ds.length by omega), Option.map_some, Function.comp]
    congr 3
    simp [List.getElem?_eq_getElem (show ds.length - 1 - j < ds.length by omega)]
set_option maxHeartbeats 4000000 in
theorem digits_more (n : Nat) (A : Option Addr) (w : World) (hx : Nat32 w A n) (hbx : ln n ≤ 1099511627776) (h0 : n ≠ 0) :
    Calls Try.prog 77 #[.slice A (ln n) (ln n)] w (RetStr w (dec n)) := by
  obtain ⟨i0, hi, hz0, hz1, hz2⟩ := info_parts Try.info_u8
  have HN : Hid ((rd n).length ≤ 10 * ln n) := Lib.hid (rd_ln n)
  have HS : Hid (ln n ≤ 1099511627776) := Lib.hid hbx
  have t0 : decide (ln n = 0) = false := by have := ln_pos h0; rw [decide_eq_false_iff_not]; omega
  have t0' : ((ln n : Int) == 0) = false := by have := ln_pos h0; rw [beq_eq_false_iff_ne]; omega
  clear hbx
  go_enter Try.func77, Try.ntmps77
  go_wp2_with fail
  go_loopg [0, 3] n (fun m u v wr => ∃ (A : Option Addr) (ds : List Nat), u = .slice A (ln m) (ln m) ∧ Hid (ds ++ rd m = rd n) ∧ Hid (ln m ≤ 1099511627776) ∧ Nat32 wr A m ∧ wr.ownsRow w.heap.size 5 1 v ds.length (dcells ds) ∧ Hid (v = .slice none 0 0 ∨ ds ≠ []) ∧ Below w.heap.size w wr)
  case atStart => exact ⟨A, [], rfl, Lib.hid (by simp), HS, hx, World.ownsRow_nil _ _ _ _, Lib.hid (.inl rfl), Below.refl _ _⟩
  case round =>
    obtain ⟨A', ds, rfl, hD, hL, hA, hown, hnil, hb⟩ := hrel
    clear hx
    by_cases hm0 : gk = 0
    · have t1 : decide (0 < ln gk) = false := by rw [hm0, ln_zero]; rfl
      have hds : ds = rd n := by have := hD.out; rw [hm0, rd_zero] at this; simpa using this
      have hne : ds ≠ [] := by rw [hds, rd_pos h0]; simp
      obtain ⟨g, cap, f, hu, hg, hcap, hrow, hf⟩ := own_row hown hne
      have hpos : 0 < ds.length := by cases ds with | nil => exact absurd rfl hne | cons a l => simp
      have hlen : ds.length ≤ 140737488355328 := by have := HN.out; have := HS.out; rw [hds]; omega
      have HE : Hid (dec n = ((ds.reverse.map fun d => ((48 + d : Nat) : Int)).foldl (fun r n => r.push (UInt8.ofNat n.toNat)) ByteArray.empty)) := Lib.hid (by unfold dec; rw [if_neg h0, hds])
      have HB := Lib.hid hb
      clear hb hown hnil hD hds hA HN hm0
      subst hu
      go_wp2_with fail
      refine (rev_any wr g ds.length cap f (by exact hrow) _ hf hpos hcap hlen).mono ?_
      rintro e w1 ⟨rfl, hr1, hb1, hz1⟩
      have hcv := rev_cells hr1 hcap hf cap
      replace HB := Lib.hid (show Below w.heap.size w w1 from HB.out.trans (hb1.mono hg))
      rw [← HE.out] at hcv
      go_wp2_with fail
      go_ret
      exact ⟨rfl, HB.out⟩
    · have t1 : decide (0 < ln gk) = true := by have := ln_pos hm0; simpa using this
      have HB := Lib.hid hb
      have H0 := Lib.hid hm0
      clear hb hm0
      go_wp2_with fail
      refine (short_any gk 1000000000 A' wr hA (by have := hL.out; omega) (by omega) (by omega)).mono ?_
      rintro e w1 ⟨A1, rfl, h1, hb1⟩
      replace hown := own_below hown hb1
      replace HB := Lib.hid (hstep HB hb1)
      have HQ : Hid (ln (gk / 1000000000) ≤ 1099511627776) := Lib.hid (Nat.le_trans (ln_mono (Nat.div_le_self _ _)) hL.out)
      have HR : Hid (gk % 1000000000 < 10 ^ 9) := Lib.hid (Nat.mod_lt _ (by omega))
      have HD : Hid (ds ++ rd (gk / 1000000000 * 10 ^ 9 + gk % 1000000000) = rd n) := Lib.hid (by have := hD.out; rw [show gk / 1000000000 * 10 ^ 9 + gk % 1000000000 = gk by omega]; exact this)
      have HM : Hid (gk / 1000000000 < gk) := Lib.hid (by have := H0.out; omega)
      clear hb1 hD hA t1
      generalize gk % 1000000000 = r at *
      generalize gk / 1000000000 = q at *
      go_wp2_with fail
      go_loopg [3, 4, 5] 9 (fun m v rs kv wr => ∃ (kk r : Nat) (ds : List Nat), kv = .int .i64 (kk : Int) ∧ rs = .int .u32 (r : Int) ∧ Hid (kk + m = 9) ∧ Hid (r < 10 ^ m) ∧ Hid (ds ++ rd (q * 10 ^ m + r) = rd n) ∧ Nat32 wr A1 q ∧ wr.ownsRow w.heap.size 5 1 v ds.length (dcells ds) ∧ Hid (v = .slice none 0 0 ∨ ds ≠ []) ∧ Below w.heap.size w wr)
      case atStart => exact ⟨0, r, ds, rfl, rfl, Lib.hid rfl, HR, HD, h1, hown, hnil, HB.out⟩
      case round =>
        clear hown hnil HB HR HD h1 ds
        obtain ⟨kk, r, ds, rfl, rfl, hk, hr, hD, hq, hown, hnil, hb⟩ := hrel
        have HB := Lib.hid hb
        have HSn := HS.out
        clear hb
        have hc : gk = 0 ∨ (gk ≠ 0 ∧ q ≠ 0) ∨ (gk ≠ 0 ∧ q = 0 ∧ r ≠ 0) ∨ (gk ≠ 0 ∧ q = 0 ∧ r = 0) := by omega
        rcases hc with c | ⟨c, d⟩ | ⟨c, d, e⟩ | ⟨c, d, e⟩
        · have t2 : decide ((kk : Int) < 9) = false := by rw [decide_eq_false_iff_not]; have := hk.out; omega
          have C := Lib.hid c
          clear c
          go_wp2_with fail
          go_roundg q
          case measure => exact HM.out
          case rel => exact ⟨A1, ds, rfl, Lib.hid (by have h1 := hr.out; rw [C.out] at h1; have h2 := hD.out; rw [C.out] at h2; rw [show q * 10 ^ 0 + r = q by simp at h1; omega] at h2; exact h2), HQ, hq, hown, hnil, HB.out⟩
        · have t2 : decide ((kk : Int) < 9) = true := by rw [decide_eq_true_eq]; have := hk.out; omega
          have t3 : decide (0 < ln q) = true := by have := ln_pos d; simpa using this
          have E : Hid (rd (q * 10 ^ gk + r) = r % 10 :: rd (q * 10 ^ (gk - 1) + r / 10)) := Lib.hid (by have := @rd_step q r (gk - 1) (.inl d); rwa [show gk - 1 + 1 = gk by omega] at this)
          have C := Lib.hid c
          have hlen : ds.length + 1 ≤ 10 * ln n := by
            have e := congrArg List.length hD.out
            rw [E.out, List.length_append, List.length_cons] at e
            have := HN.out; omega
          have HD : Hid (ds ++ [r % 10] ++ rd (q * 10 ^ (gk - 1) + r / 10) = rd n) := Lib.hid (by have := hD.out; rw [E.out] at this; rw [← this]; simp)
          have HR2 : Hid (r / 10 < 10 ^ (gk - 1)) := Lib.hid (by have := hr.out; rw [show gk = gk - 1 + 1 by omega, Nat.pow_succ] at this; omega)
          have HK : Hid (kk + gk = 9) := hk
          have hkk : kk < 9 := by have := hk.out; omega
          have hr9 : r < 4294967296 := by
            have h1 := hr.out
            have h2 : 10 ^ gk ≤ 10 ^ 9 := Nat.pow_le_pow_right (by omega) (by have := HK.out; omega)
            have h3 : (10 : Nat) ^ 9 = 1000000000 := by decide
            omega
          clear hD hr hk E
          go_wp2_with (at_builtin; (refine wpList_append_own _ rfl _ _ 116 rfl w.heap.size 5 i0 (.int .u8 0) 1 1 Try.und_bytes hi hz0 hz1 hz2 rfl (by decide) _ _ _ rfl (hown.alloc _) ⟨wr.heap.size, 0, none⟩ 1 1 [_] rfl rfl (cell_one_new _ _ _) (by intro u hu; simp at hu; subst hu; rfl) (by unfold maxLen; omega) (by omega) (by have := HB.out.size; simp; omega) ?_; intro v1 w2 hown1 hgrow1 hnil1))
          replace hgrow1 : (wr.alloc (.cells #[.int .u8 (48 + (r : Int) % 10)] 5)).grownBy w2 u3.ownBlock := hgrow1
          have hq2 := nat_grown (hq.alloc (.cells #[.int .u8 (48 + (r : Int) % 10)] 5)) (hown.alloc (.cells #[.int .u8 (48 + (r : Int) % 10)] 5)) hnil.out hgrow1
          have hb2 : Below w.heap.size w w2 := (HB.out.alloc HB.out.size _).grown hgrow1 (by have := HB.out.size; simp; omega) (fun k h => (hown.lt k h).1)
          go_roundg (gk - 1)
          case measure => have := C.out; omega
          case rel => exact ⟨kk + 1, r / 10, ds ++ [r % 10], by simp, by simp, Lib.hid (by have := HK.out; have := C.out; omega), HR2, HD, hq2, by rw [List.length_append, dcells_app]; exact hown1, Lib.hid (.inr (by simp)), hb2⟩
        · have t2 : decide ((kk : Int) < 9) = true := by rw [decide_eq_true_eq]; have := hk.out; omega
          have t3 : decide (0 < ln q) = false := by rw [d, ln_zero]; rfl
          have t4 : decide (0 < r) = true := by rw [decide_eq_true_eq]; omega
          have t5 : decide (0 < (r : Int)) = true := by rw [decide_eq_true_eq]; omega
          have E : Hid (rd (q * 10 ^ gk + r) = r % 10 :: rd (q * 10 ^ (gk - 1) + r / 10)) := Lib.hid (by have := @rd_step q r (gk - 1) (.inr e); rwa [show gk - 1 + 1 = gk by omega] at this)
          have C := Lib.hid c
          clear d
          have hlen : ds.length + 1 ≤ 10 * ln n := by
            have e := congrArg List.length hD.out
            rw [E.out, List.length_append, List.length_cons] at e
            have := HN.out; omega
          have HD : Hid (ds ++ [r % 10] ++ rd (q * 10 ^ (gk - 1) + r / 10) = rd n) := Lib.hid (by have := hD.out; rw [E.out] at this; rw [← this]; simp)
          have HR2 : Hid (r / 10 < 10 ^ (gk - 1)) := Lib.hid (by have := hr.out; rw [show gk = gk - 1 + 1 by omega, Nat.pow_succ] at this; omega)
          have HK : Hid (kk + gk = 9) := hk
          have hkk : kk < 9 := by have := hk.out; omega
          have hr9 : r < 4294967296 := by
            have h1 := hr.out
            have h2 : 10 ^ gk ≤ 10 ^ 9 := Nat.pow_le_pow_right (by omega) (by have := HK.out; omega)
            have h3 : (10 : Nat) ^ 9 = 1000000000 := by decide
            omega
          clear hD hr hk E
          go_wp2_with (at_builtin; (refine wpList_append_own _ rfl _ _ 116 rfl w.heap.size 5 i0 (.int .u8 0) 1 1 Try.und_bytes hi hz0 hz1 hz2 rfl (by decide) _ _ _ rfl (hown.alloc _) ⟨wr.heap.size, 0, none⟩ 1 1 [_] rfl rfl (cell_one_new _ _ _) (by intro u hu; simp at hu; subst hu; rfl) (by unfold maxLen; omega) (by omega) (by have := HB.out.size; simp; omega) ?_; intro v1 w2 hown1 hgrow1 hnil1))
          replace hgrow1 : (wr.alloc (.cells #[.int .u8 (48 + (r : Int) % 10)] 5)).grownBy w2 u3.ownBlock := hgrow1
          have hq2 := nat_grown (hq.alloc (.cells #[.int .u8 (48 + (r : Int) % 10)] 5)) (hown.alloc (.cells #[.int .u8 (48 + (r : Int) % 10)] 5)) hnil.out hgrow1
          have hb2 : Below w.heap.size w w2 := (HB.out.alloc HB.out.size _).grown hgrow1 (by have := HB.out.size; simp; omega) (fun k h => (hown.lt k h).1)
          go_roundg (gk - 1)
          case measure => have := C.out; omega
          case rel => exact ⟨kk + 1, r / 10, ds ++ [r % 10], by simp, by simp, Lib.hid (by have := HK.out; have := C.out; omega), HR2, HD, hq2, by rw [List.length_append, dcells_app]; exact hown1, Lib.hid (.inr (by simp)), hb2⟩
        · have t2 : decide ((kk : Int) < 9) = true := by rw [decide_eq_true_eq]; have := hk.out; omega
          have t3 : decide (0 < ln q) = false := by rw [d, ln_zero]; rfl
          have t4 : decide (0 < r) = false := by rw [e]; rfl
          have t5 : decide (0 < (r : Int)) = false := by rw [e]; rfl
          have D := Lib.hid d
          have E := Lib.hid e
          clear c d e
          go_wp2_with fail
          go_roundg q
          case measure => exact HM.out
          case rel => exact ⟨A1, ds, rfl, Lib.hid (by have h2 := hD.out; rw [D.out, E.out] at h2; rw [D.out]; simpa using h2), HQ, hq, hown, hnil, HB.out⟩
theorem digits_zero (A : Option Addr) (w : World) : Calls Try.prog 77 #[.slice A 0 0] w (RetStr w (dec 0)) := by
  go_enter Try.func77, Try.ntmps77
  go_wp2_with fail
  go_ret
  exact ⟨rfl, Below.refl _ _⟩
/-- 'x.digits()'. -/
theorem digits_any (n : Nat) (A : Option Addr) (w : World) (hx : Nat32 w A n) (hbx : ln n ≤ 1099511627776) :
    Calls Try.prog 77 #[.slice A (ln n) (ln n)] w (RetStr w (dec n)) := by
  by_cases h : n = 0
  · subst h; rw [ln_zero]; exact digits_zero A w
  · exact digits_more n A w hx hbx h
end Go.Proofs.Ytdpjknjlhchmcaa

namespace Go.Proofs.Ytdpjknjlhchmcaa
open Go.RowKit Pl
set_option linter.unusedVariables false
set_option linter.unusedSimpArgs false
theorem Try.info_num : (Try.prog.info? 34).map (fun i => (i.zero, i.size, i.bytes)) = some (some (.agg #[.bool false, .slice none 0 0, .bool false, .slice none 0 0, .slice none 0 0]), 5, 88) := by kernel_rfl
theorem Try.und_nums : Try.prog.underlying 42 = some (.slice 34) := by kernel_rfl
set_option maxRecDepth 100000 in
set_option maxHeartbeats 1000000 in
theorem clone_any (w : World) (g m k : Nat) (xs : List Value) (hl : xs.length = m * 5) (hc : ∀ j u, xs[j]? = some u → w.cell? ⟨g, j, none⟩ = some u) (h1 : ∀ u ∈ xs, u.oneCell' = true) (hm : m * 88 ≤ 140737488355328) :
    Calls Try.prog 55 #[.slice (some ⟨g, 0, none⟩) m k] w fun e w' => ∃ v, e = .returned v ∧ w'.ownsRow w.heap.size 34 5 v m xs ∧ v ≠ .slice none 0 0 ∧ Below w.heap.size w w' := by
  obtain ⟨i0, hi, hz0, hz1, hz2⟩ := info_parts Try.info_num
  have hg : ∀ j u, xs[j]? = some u → g < w.heap.size := fun j u h => World.block_lt_of_cell? w ⟨g, j, none⟩ (hc j u h)
  have HC := Lib.hid hc
  have HL := Lib.hid hl
  have HG := Lib.hid hg
  have H1 := Lib.hid h1
  have HM := Lib.hid hm
  clear hc hg h1 hl hm
  have heq : ∀ w, (binOp .eql 42 (.slice (some ⟨g, 0, none⟩) m k) (.slice none 0 0)).run Try.prog w = .ok (.bool false) w := fun w => by kernel_rfl
  go_enter Try.func55, Try.ntmps55
  go_wp2_with (at_builtin; go_loud (refine wpList_append_own _ rfl _ _ 42 rfl w.heap.size 34 i0 (.agg #[.bool false, .slice none 0 0, .bool false, .slice none 0 0, .slice none 0 0]) 5 88 Try.und_nums hi hz0 hz1 hz2 rfl (by decide) _ 0 [] rfl (World.ownsRow_made w #[] 0 (Nat.le_refl _) (by unfold maxLen; omega) rfl) ⟨g, 0, none⟩ m k xs rfl HL.out (fun j u h => by rw [show (⟨g, 0, none⟩ : Addr).add j = ⟨g, j, none⟩ by simp only [Addr.add]; split <;> simp_all]; exact keepc ((Below.refl w.heap.size w).alloc (Nat.le_refl _) _) (HC.out j u h) (HG.out j u h)) H1.out (by have := HM.out; unfold maxLen; omega) (by have := HM.out; omega) (by simp) ?_; intro v1 w2 hown1 hgrow1 hnil1))
  go_ret
  have hn : v1 ≠ .slice none 0 0 := fun h => by have := (hnil1.1 h).1; cases this
  refine ⟨v1, rfl, ?_, hn, ?_⟩
  · have := hown1; rw [Nat.zero_add, List.nil_append] at this; exact this
  · exact ((Below.refl w.heap.size w).alloc (Nat.le_refl _) _).grown hgrow1 (by simp) (fun k h => by cases h; exact Nat.le_refl _)
theorem own_set {w : World} {b : Nat} {e : TypeId} {z n : Nat} {v u : Value} {xs : List Value} {p : Addr} (h : w.ownsRow b e z v n xs) (hp : p.block < b) : (w.setCell p u).ownsRow b e z v n xs :=
  h.kept (row := some p.block) ⟨rfl, rfl, rfl, by simp [World.setCell], fun k hk hne => Below.heap_setCell _ _ _ _ (fun e => hne (by rw [e]))⟩ (.inr (fun e => by have := (h.lt _ e).1; omega))
set_option maxRecDepth 100000 in
set_option maxHeartbeats 4000000 in
theorem copied2 (w : World) (b g0 g1 k0 k1 c : Nat) (xs0 xs1 : List Value) (m0 : w.cell? ⟨b, 0, none⟩ = some (.slice (some ⟨g0, 0, none⟩) 2 k0)) (m1 : w.cell? ⟨b, 1, none⟩ = some (.slice (some ⟨g1, 0, none⟩) 2 k1)) (hb : b < w.heap.size)
    (l0 : xs0.length = 2 * 5) (l1 : xs1.length = 2 * 5) (x0 : ∀ j u, xs0[j]? = some u → w.cell? ⟨g0, j, none⟩ = some u) (x1 : ∀ j u, xs1[j]? = some u → w.cell? ⟨g1, j, none⟩ = some u) (o0 : ∀ u ∈ xs0, u.oneCell' = true) (o1 : ∀ u ∈ xs1, u.oneCell' = true) (hg0 : g0 < w.heap.size) (hg1 : g1 < w.heap.size) :
    Calls Try.prog 27 #[.slice (some ⟨b, 0, none⟩) 2 c, .slice none 0 0] w fun e w' => ∃ p r0 r1 a0 a1, e = .returned (.slice (some ⟨p, 0, none⟩) 2 2) ∧ w'.cell? ⟨p, 0, none⟩ = some (.slice (some ⟨r0, 0, none⟩) 2 a0) ∧ w'.cell? ⟨p, 1, none⟩ = some (.slice (some ⟨r1, 0, none⟩) 2 a1) ∧
      w'.ownsRow (p + 1) 34 5 (.slice (some ⟨r0, 0, none⟩) 2 a0) 2 xs0 ∧ w'.ownsRow (p + 1) 34 5 (.slice (some ⟨r1, 0, none⟩) 2 a1) 2 xs1 ∧ r0 ≠ r1 ∧ w.heap.size ≤ p ∧ p < w'.heap.size ∧ w'.frozen? ⟨p, 0, none⟩ = false ∧ w'.frozen? ⟨p, 1, none⟩ = false ∧ Below w.heap.size w w' := by
  have hmk : ∀ w : World, (Instr.makeSlice 24 (.int .i64 2) (.int .i64 2)).run Try.prog w = .ok (.slice (some ⟨w.heap.size, 0, none⟩) 2 2) (w.alloc (.cells #[.slice none 0 0, .slice none 0 0] 42)) := fun _ => by kernel_rfl
  have L0 := Lib.hid l0
  have L1 := Lib.hid l1
  have X0 := Lib.hid x0
  have X1 := Lib.hid x1
  have O0 := Lib.hid o0
  have O1 := Lib.hid o1
  clear l0 l1 x0 x1 o0 o1
  go_enter Try.func27, Try.ntmps27
  go_wp2_with fail
  obtain ⟨W, hW⟩ : ∃ X : World, X = w.alloc (.cells #[.slice none 0 0, .slice none 0 0] 42) := ⟨_, rfl⟩
  rw [← hW]
  have HW : Hid (Below w.heap.size w W) := by rw [hW]; exact Lib.hid ((Below.refl _ _).alloc (Nat.le_refl _) _)
  replace m0 := keepc HW.out m0 hb
  replace m1 := keepc HW.out m1 hb
  have p0 : W.cell? ⟨w.heap.size, 0, none⟩ = some (.slice none 0 0) := by subst hW; go_simp
  have p1 : W.cell? ⟨w.heap.size, 1, none⟩ = some (.slice none 0 0) := by subst hW; go_simp
  have f0 : W.frozen? ⟨w.heap.size, 0, none⟩ = false := by subst hW; go_simp
  have f1 : W.frozen? ⟨w.heap.size, 1, none⟩ = false := by subst hW; go_simp
  have hp : w.heap.size < W.heap.size := by rw [hW]; simp
  have hz : W.heap.size = w.heap.size + 1 := by rw [hW]; simp
  clear hW hmk
  have hbp : b ≠ w.heap.size := by omega
  refine wp_loop_rounds 3 ?_
  rw [rounds_succ]
  go_wp2_with fail
  refine (clone_any W g0 2 k0 xs0 L0.out (fun j u h => keepc HW.out (X0.out j u h) hg0) O0.out (by omega)).mono ?_
  rintro e w1 ⟨v0, rfl, hv0, hn0, hb1⟩
  obtain ⟨r0, a0, rfl, hr0, hr0l⟩ := hv0.form (by omega)
  rw [hz] at hv0 hr0
  replace m0 := keepc hb1 m0 (by omega)
  replace m1 := keepc hb1 m1 (by omega)
  replace p0 := keepc hb1 p0 hp
  replace p1 := keepc hb1 p1 hp
  replace f0 := keepf hb1 f0 hp
  replace f1 := keepf hb1 f1 hp
  replace hp := Nat.lt_of_lt_of_le hp hb1.size
  replace HW := Lib.hid (hstep HW hb1)
  have hv0' := Lib.hid hv0
  clear hb1 hz hn0 hv0
  go_wp2_with fail
  obtain ⟨Y, hY⟩ : ∃ Y : World, Y = w1.setCell ⟨w.heap.size, 0, none⟩ (.slice (some ⟨r0, 0, none⟩) 2 a0) := ⟨_, rfl⟩
  rw [← hY]
  replace p0 := cell_self (u := .slice (some ⟨r0, 0, none⟩) 2 a0) p0
  replace p1 := keepo (R := w.heap.size) (j := 0) (u := .slice (some ⟨r0, 0, none⟩) 2 a0) p1 (.inr (by omega))
  replace f0 := keepof (R := w.heap.size) (j := 0) (u := .slice (some ⟨r0, 0, none⟩) 2 a0) f0
  replace f1 := keepof (R := w.heap.size) (j := 0) (u := .slice (some ⟨r0, 0, none⟩) 2 a0) f1
  replace m0 := keepo (R := w.heap.size) (j := 0) (u := .slice (some ⟨r0, 0, none⟩) 2 a0) m0 (.inl hbp)
  replace m1 := keepo (R := w.heap.size) (j := 0) (u := .slice (some ⟨r0, 0, none⟩) 2 a0) m1 (.inl hbp)
  rw [← hY] at p0 p1 f0 f1 m0 m1
  have HY : Hid (Below w.heap.size w Y) := by rw [hY]; exact Lib.hid (HW.out.setCell (by exact Nat.le_refl _) _)
  have hown0 : Hid (Y.ownsRow (w.heap.size + 1) 34 5 (.slice (some ⟨r0, 0, none⟩) 2 a0) 2 xs0) := by rw [hY]; exact Lib.hid (own_set hv0'.out (by show w.heap.size < _; omega))
  have hyz : Y.heap.size = w1.heap.size := by rw [hY]; simp [World.setCell]
  replace hp : w.heap.size < Y.heap.size := by omega
  have hr0l2 : r0 < Y.heap.size := by omega
  clear hY HW hv0' hr0l hyz
  refine wp_loop_rounds 1 ?_
  rw [rounds_succ]
  go_wp2_with fail
  rw [rounds_succ]
  go_wp2_with fail
  refine (clone_any Y g1 2 k1 xs1 L1.out (fun j u h => keepc HY.out (X1.out j u h) hg1) O1.out (by omega)).mono ?_
  rintro e w2 ⟨v1, rfl, hv1, hn1, hb2⟩
  obtain ⟨r1, a1, rfl, hr1, hr1l⟩ := hv1.form (by omega)
  replace m0 := keepc hb2 m0 (by omega)
  replace m1 := keepc hb2 m1 (by omega)
  replace p0 := keepc hb2 p0 hp
  replace p1 := keepc hb2 p1 hp
  replace f0 := keepf hb2 f0 hp
  replace f1 := keepf hb2 f1 hp
  replace hown0 := Lib.hid (own_below hown0.out hb2)
  have hne : Hid (r0 ≠ r1) := Lib.hid (by omega)
  have hv1' : Hid (w2.ownsRow (w.heap.size + 1) 34 5 (.slice (some ⟨r1, 0, none⟩) 2 a1) 2 xs1) := Lib.hid ⟨hv1.1, by
    rcases hv1.2 with h | ⟨g, cap, cur, e, h1, h2⟩
    · exact .inl h
    · exact .inr ⟨g, cap, cur, e, by omega, h2⟩⟩
  replace hp := Nat.lt_of_lt_of_le hp hb2.size
  replace HY := Lib.hid (hstep HY hb2)
  clear hb2 hn1 hv1
  go_wp2_with fail
  obtain ⟨Z, hZ⟩ : ∃ Y : World, Y = w2.setCell ⟨w.heap.size, 1, none⟩ (.slice (some ⟨r1, 0, none⟩) 2 a1) := ⟨_, rfl⟩
  rw [← hZ]
  replace p1 := cell_self (u := .slice (some ⟨r1, 0, none⟩) 2 a1) p1
  replace p0 := keepo (R := w.heap.size) (j := 1) (u := .slice (some ⟨r1, 0, none⟩) 2 a1) p0 (.inr (by omega))
  replace f0 := keepof (R := w.heap.size) (j := 1) (u := .slice (some ⟨r1, 0, none⟩) 2 a1) f0
  replace f1 := keepof (R := w.heap.size) (j := 1) (u := .slice (some ⟨r1, 0, none⟩) 2 a1) f1
  rw [← hZ] at p0 p1 f0 f1
  have HZ : Hid (Below w.heap.size w Z) := by rw [hZ]; exact Lib.hid (HY.out.setCell (by exact Nat.le_refl _) _)
  replace hown0 : Hid (Z.ownsRow (w.heap.size + 1) 34 5 (.slice (some ⟨r0, 0, none⟩) 2 a0) 2 xs0) := by rw [hZ]; exact Lib.hid (own_set hown0.out (by show w.heap.size < _; omega))
  have hown1 : Hid (Z.ownsRow (w.heap.size + 1) 34 5 (.slice (some ⟨r1, 0, none⟩) 2 a1) 2 xs1) := by rw [hZ]; exact Lib.hid (own_set hv1'.out (by show w.heap.size < _; omega))
  have hzl : w.heap.size < Z.heap.size := by rw [hZ]; simpa [World.setCell] using hp
  clear hZ HY hv1' m0 m1
  refine wp_loop_rounds 1 ?_
  rw [rounds_succ]
  go_wp2_with fail
  rw [rounds_succ]
  go_wp2_with fail
  go_ret
  exact ⟨w.heap.size, r0, r1, a0, a1, rfl, p0, p1, hown0.out, hown1.out, hne.out, Nat.le_refl _, hzl, f0, f1, HZ.out⟩
end Go.Proofs.Ytdpjknjlhchmcaa

namespace Go.Proofs.Ytdpjknjlhchmcaa
open Go.RowKit Pl
set_option linter.unusedVariables false
set_option linter.unusedSimpArgs false
theorem fold_size (l : List Int) : ∀ s : ByteArray, (l.foldl (fun r n => r.push (UInt8.ofNat n.toNat)) s).size = s.size + l.length := by
  induction l with
  | nil => intro s; simp
  | cons a l ih => intro s; rw [List.foldl_cons, ih]; simp [ByteArray.size_push]; omega
theorem dec_size (n : Nat) : (dec n).size ≤ 10 * ln n + 1 := by
  unfold dec
  by_cases h : n = 0
  · rw [if_pos h]; show 1 ≤ _; omega
  · rw [if_neg h, fold_size]
    have := rd_ln n
    simp
    omega
/-- The text of a real number in lowest terms. -/
def sgT (q : Cx) : ByteArray := if sn (na q) = true then ⟨#[45]⟩ ++ dec (ab (na q)) else dec (ab (na q))
def partT (q : Cx) : ByteArray := if un q = 0 then sgT q else sgT q ++ (⟨#[47]⟩ ++ dec (un q))
theorem partT_size {q : Cx} (h : sz 1099511627776 q) : (partT q).size ≤ 70368744177664 := by
  have h1 := dec_size (ab (na q))
  have h2 := dec_size (un q)
  have h3 := un_ln q
  have h4 := h.1
  have h5 := h.2.2
  unfold partT sgT
  split <;> split <;> (try simp only [ByteArray.size_append]) <;> (try rw [show (ByteArray.mk #[45]).size = 1 from rfl]) <;> (try rw [show (ByteArray.mk #[47]).size = 1 from rfl]) <;> omega
set_option maxHeartbeats 4000000 in
theorem part_any (a : Int) (d : Nat) (A D : Option Addr) (w : World) (hx : Nat32 w A (ab a)) (hd : Nat32 w D d) (hbx : ln (ab a) ≤ 549755813888) (hbd : ln d ≤ 549755813888) (hd0 : d ≠ 0) :
    Calls Try.prog 65 #[.agg #[.bool (sn (a)), .slice A (ln (ab (a))) (ln (ab (a)))], .slice D (ln d) (ln d)] w (RetStr w (partT (fr a 0 d))) := by
  have HZ : Hid (sz 549755813888 (fr a 0 d)) := Lib.hid (fr_sz hd0 hbx (by show ln 0 ≤ _; rw [ln_zero]; omega) hbd)
  have HA := Lib.hid hbx
  have HD := Lib.hid hbd
  have H0 := Lib.hid hd0
  clear hbx hbd hd0
  go_enter Try.func65, Try.ntmps65
  go_wp2_with fail
  obtain ⟨W, hW⟩ : ∃ W : World, W = (w.alloc (.cells #[.bool (sn (a)), .slice A (ln (ab (a))) (ln (ab (a)))] 32)) := ⟨_, rfl⟩
  have s0_0 : W.cell? ⟨w.heap.size, 0, none⟩ = some (.bool (sn (a))) := by subst hW; go_simp
  have s0_1 : W.cell? ⟨w.heap.size, 1, none⟩ = some (.slice A (ln (ab (a))) (ln (ab (a)))) := by subst hW; go_simp
  have HW : Below w.heap.size w W := by subst hW; exact ((Below.refl w.heap.size w).alloc (Nat.le_refl _) _)
  have l0 : w.heap.size < W.heap.size := by subst hW; simp
  replace hx := hx.to HW
  replace hd := hd.to HW
  rw [← hW]
  clear hW
  replace HW := Lib.hid HW
  refine (over0_any a d A D _ (by exact hx) (by exact hd) (by have := HA.out; omega) (by have := HD.out; omega) H0.out).mono ?_
  rintro e w1 ⟨Z1, Z2, Z3, rfl, h1, hb1⟩
  replace s0_0 := keepc hb1 s0_0 l0
  replace s0_1 := keepc hb1 s0_1 l0
  replace l0 := Nat.lt_of_lt_of_le l0 hb1.size
  replace hx := hx.to hb1
  replace hd := hd.to hb1
  replace HW := Lib.hid (hstep HW hb1)
  clear hb1
  go_wp2_with fail
  obtain ⟨X, hX⟩ : ∃ X : World, X = w1.alloc (.cells #[.bool (sn (na (fr a 0 d))), .slice Z1 (ln (ab (na (fr a 0 d)))) (ln (ab (na (fr a 0 d)))), .bool (sn (nb (fr a 0 d))), .slice Z2 (ln (ab (nb (fr a 0 d)))) (ln (ab (nb (fr a 0 d)))), .slice Z3 (ln (un (fr a 0 d))) (ln (un (fr a 0 d)))] 34) := ⟨_, rfl⟩
  rw [← hX]
  have b2 : Below w1.heap.size w1 X := by rw [hX]; exact (Below.refl _ _).alloc (Nat.le_refl _) _
  have V : VarAt X w1.heap.size (fr a 0 d) Z1 Z2 Z3 := ⟨by rw [hX]; simp, ⟨by subst hX; go_simp, by subst hX; go_simp, by subst hX; go_simp, by subst hX; go_simp, by subst hX; go_simp⟩, h1.to b2⟩
  replace HW := Lib.hid (hstep HW b2)
  clear hX b2 hx hd h1 s0_0 s0_1 l0
  generalize w1.heap.size = g at *
  generalize fr a 0 d = q at *
  have HQ : Hid (ln (ab (na q)) ≤ 1099511627776 ∧ ln (un q) ≤ 1099511627776) := Lib.hid ⟨Nat.le_trans HZ.out.1 (by omega), Nat.le_trans (un_ln q) (Nat.le_trans HZ.out.2.2 (by omega))⟩
  have HC : Hid ((sn (na q) = true ∨ sn (na q) = false) ∧ (un q ≠ 0 ∨ un q = 0)) := Lib.hid ⟨by cases sn (na q) <;> simp, by omega⟩
  rcases HC.out with ⟨t1 | t1, t2 | t2⟩
  · have T1 := Lib.hid t1; have T2 := Lib.hid t2; clear t1 t2
    refine (digits_any (ab (na q)) Z1 _ (by exact V.2.2.1) HQ.out.1).mono ?_
    rintro e w2 ⟨rfl, hb2⟩; replace V := V.to hb2; replace HW := Lib.hid (hstep HW hb2); clear hb2
    have z1 : (dec (ab (na q))).size ≤ 17592186044416 := by have := dec_size (ab (na q)); have := HQ.out.1; omega
    have z2 : (dec (un q)).size ≤ 17592186044416 := by have := dec_size (un q); have := HQ.out.2; omega
    obtain ⟨c0, c1, c2, c3, c4⟩ := V.2.1
    rw [T1.out] at c0
    have t2 : decide (0 < ln (un q)) = true := by have := ln_pos T2.out; simpa using this
    go_wp2_with fail
    clear c0 c1 c2 c3 c4
    refine (digits_any (un q) Z3 _ (by exact V.2.2.2.2) HQ.out.2).mono ?_
    rintro e w3 ⟨rfl, hb3⟩; replace HW := Lib.hid (hstep HW hb3); clear hb3
    go_wp2_with fail
    have E : Hid (partT q = ⟨#[45]⟩ ++ dec (ab (na q)) ++ (⟨#[47]⟩ ++ dec (un q))) := Lib.hid (by unfold partT sgT; simp [T1.out, T2.out, ByteArray.append_assoc])
    rw [E.out]
    go_ret
    exact ⟨by first | rfl | simp [ByteArray.append_assoc], HW.out⟩
  · have T1 := Lib.hid t1; have T2 := Lib.hid t2; clear t1 t2
    refine (digits_any (ab (na q)) Z1 _ (by exact V.2.2.1) HQ.out.1).mono ?_
    rintro e w2 ⟨rfl, hb2⟩; replace V := V.to hb2; replace HW := Lib.hid (hstep HW hb2); clear hb2
    have z1 : (dec (ab (na q))).size ≤ 17592186044416 := by have := dec_size (ab (na q)); have := HQ.out.1; omega
    have z2 : (dec (un q)).size ≤ 17592186044416 := by have := dec_size (un q); have := HQ.out.2; omega
    obtain ⟨c0, c1, c2, c3, c4⟩ := V.2.1
    rw [T1.out] at c0
    have t2 : decide (0 < ln (un q)) = false := by rw [T2.out, ln_zero]; rfl
    go_wp2_with fail
    have E : Hid (partT q = ⟨#[45]⟩ ++ dec (ab (na q))) := Lib.hid (by unfold partT sgT; simp [T1.out, T2.out, ByteArray.append_assoc])
    rw [E.out]
    go_ret
    exact ⟨by first | rfl | simp [ByteArray.append_assoc], HW.out⟩
  · have T1 := Lib.hid t1; have T2 := Lib.hid t2; clear t1 t2
    refine (digits_any (ab (na q)) Z1 _ (by exact V.2.2.1) HQ.out.1).mono ?_
    rintro e w2 ⟨rfl, hb2⟩; replace V := V.to hb2; replace HW := Lib.hid (hstep HW hb2); clear hb2
    have z1 : (dec (ab (na q))).size ≤ 17592186044416 := by have := dec_size (ab (na q)); have := HQ.out.1; omega
    have z2 : (dec (un q)).size ≤ 17592186044416 := by have := dec_size (un q); have := HQ.out.2; omega
    obtain ⟨c0, c1, c2, c3, c4⟩ := V.2.1
    rw [T1.out] at c0
    have t2 : decide (0 < ln (un q)) = true := by have := ln_pos T2.out; simpa using this
    go_wp2_with fail
    clear c0 c1 c2 c3 c4
    refine (digits_any (un q) Z3 _ (by exact V.2.2.2.2) HQ.out.2).mono ?_
    rintro e w3 ⟨rfl, hb3⟩; replace HW := Lib.hid (hstep HW hb3); clear hb3
    go_wp2_with fail
    have E : Hid (partT q = dec (ab (na q)) ++ (⟨#[47]⟩ ++ dec (un q))) := Lib.hid (by unfold partT sgT; simp [T1.out, T2.out, ByteArray.append_assoc])
    rw [E.out]
    go_ret
    exact ⟨by first | rfl | simp [ByteArray.append_assoc], HW.out⟩
  · have T1 := Lib.hid t1; have T2 := Lib.hid t2; clear t1 t2
    refine (digits_any (ab (na q)) Z1 _ (by exact V.2.2.1) HQ.out.1).mono ?_
    rintro e w2 ⟨rfl, hb2⟩; replace V := V.to hb2; replace HW := Lib.hid (hstep HW hb2); clear hb2
    have z1 : (dec (ab (na q))).size ≤ 17592186044416 := by have := dec_size (ab (na q)); have := HQ.out.1; omega
    have z2 : (dec (un q)).size ≤ 17592186044416 := by have := dec_size (un q); have := HQ.out.2; omega
    obtain ⟨c0, c1, c2, c3, c4⟩ := V.2.1
    rw [T1.out] at c0
    have t2 : decide (0 < ln (un q)) = false := by rw [T2.out, ln_zero]; rfl
    go_wp2_with fail
    have E : Hid (partT q = dec (ab (na q))) := Lib.hid (by unfold partT sgT; simp [T1.out, T2.out, ByteArray.append_assoc])
    rw [E.out]
    go_ret
    exact ⟨by first | rfl | simp [ByteArray.append_assoc], HW.out⟩
theorem real_to (x : Cx) (A1 A2 A3 : Option Addr) (w : World) (hx : Num3 w A1 A2 A3 x) {b : Bool} (h : decide (nb x = 0) = b) :
    Calls Try.prog 64 #[.agg #[.bool (sn (na x)), .slice A1 (ln (ab (na x))) (ln (ab (na x))), .bool (sn (nb x)), .slice A2 (ln (ab (nb x))) (ln (ab (nb x))), .slice A3 (ln (un x)) (ln (un x))]] w (RetBool w b) := h ▸ real_any x A1 A2 A3 w hx
/-- The text of a number. -/
def imT (x : Cx) : ByteArray := partT (fr (nb x) 0 (nd x)) ++ ⟨#[105]⟩
def textT (x : Cx) : ByteArray := if nb x = 0 then partT (fr (na x) 0 (nd x)) else if na x = 0 then imT x else partT (fr (na x) 0 (nd x)) ++ (if sn (nb x) = true then imT x else ⟨#[43]⟩ ++ imT x)
set_option maxHeartbeats 4000000 in
theorem text_real (x : Cx) (A1 A2 A3 : Option Addr) (w : World) (hx : Num3 w A1 A2 A3 x) (hs : sz 274877906944 x) (h : nb x = 0) :
    Calls Try.prog 41 #[.agg #[.bool (sn (na x)), .slice A1 (ln (ab (na x))) (ln (ab (na x))), .bool (sn (nb x)), .slice A2 (ln (ab (nb x))) (ln (ab (nb x))), .slice A3 (ln (un x)) (ln (un x))]] w (RetStr w (textT x)) := by
  have HS : Hid (sz 274877906944 x) := Lib.hid hs
  have HT : Hid (textT x = partT (fr (na x) 0 (nd x))) := Lib.hid (by unfold textT; simp [h])
  have t1 : Hid (decide (nb x = 0) = true) := Lib.hid (decide_eq_true h)
  have zr : (partT (fr (na x) 0 (nd x))).size ≤ 70368744177664 := partT_size (fr_sz (nd_ne0 x) (Nat.le_trans hs.1 (by omega)) (by show ln 0 ≤ _; rw [ln_zero]; omega) (Nat.le_trans hs.2.2 (by omega)))
  have zi : (partT (fr (nb x) 0 (nd x))).size ≤ 70368744177664 := partT_size (fr_sz (nd_ne0 x) (Nat.le_trans hs.2.1 (by omega)) (by show ln 0 ≤ _; rw [ln_zero]; omega) (Nat.le_trans hs.2.2 (by omega)))
  have y1 : ¬ (9223372036854775807 < (partT (fr (nb x) 0 (nd x))).size + 1) := by omega
  have y2 : ¬ (9223372036854775807 < 1 + ((partT (fr (nb x) 0 (nd x))).size + 1)) := by omega
  have y3 : ¬ (9223372036854775807 < (partT (fr (na x) 0 (nd x))).size + ((partT (fr (nb x) 0 (nd x))).size + 1)) := by omega
  have y4 : ¬ (9223372036854775807 < (partT (fr (na x) 0 (nd x))).size + (1 + ((partT (fr (nb x) 0 (nd x))).size + 1))) := by omega
  rw [HT.out]
  clear h hs
  go_enter Try.func41, Try.ntmps41
  go_wp2_with fail
  obtain ⟨W, hW⟩ : ∃ W : World, W = (w.alloc (.cells #[.bool (sn (na x)), .slice A1 (ln (ab (na x))) (ln (ab (na x))), .bool (sn (nb x)), .slice A2 (ln (ab (nb x))) (ln (ab (nb x))), .slice A3 (ln (un x)) (ln (un x))] 34)) := ⟨_, rfl⟩
  have s0_0 : W.cell? ⟨w.heap.size, 0, none⟩ = some (.bool (sn (na x))) := by subst hW; go_simp
  have s0_1 : W.cell? ⟨w.heap.size, 1, none⟩ = some (.slice A1 (ln (ab (na x))) (ln (ab (na x)))) := by subst hW; go_simp
  have s0_2 : W.cell? ⟨w.heap.size, 2, none⟩ = some (.bool (sn (nb x))) := by subst hW; go_simp
  have s0_3 : W.cell? ⟨w.heap.size, 3, none⟩ = some (.slice A2 (ln (ab (nb x))) (ln (ab (nb x)))) := by subst hW; go_simp
  have s0_4 : W.cell? ⟨w.heap.size, 4, none⟩ = some (.slice A3 (ln (un x)) (ln (un x))) := by subst hW; go_simp
  have HW : Below w.heap.size w W := by subst hW; exact ((Below.refl w.heap.size w).alloc (Nat.le_refl _) _)
  have l0 : w.heap.size < W.heap.size := by subst hW; simp
  replace hx := hx.to HW
  rw [← hW]
  clear hW
  replace HW := Lib.hid HW
  refine (real_to x A1 A2 A3 _ (by exact hx) t1.out).mono ?_
  rintro e w1 ⟨rfl, hb1⟩
  replace s0_0 := keepc hb1 s0_0 l0
  replace s0_1 := keepc hb1 s0_1 l0
  replace s0_2 := keepc hb1 s0_2 l0
  replace s0_3 := keepc hb1 s0_3 l0
  replace s0_4 := keepc hb1 s0_4 l0
  replace l0 := Nat.lt_of_lt_of_le l0 hb1.size
  replace hx := hx.to hb1
  replace HW := Lib.hid (hstep HW hb1)
  clear hb1
  go_wp2_with fail
  go_region_held3 (fun w' => w'.cell? ⟨w.heap.size, 0, none⟩ = some (.bool (sn (na x))) ∧ w'.cell? ⟨w.heap.size, 1, none⟩ = some (.slice A1 (ln (ab (na x))) (ln (ab (na x)))) ∧ w'.cell? ⟨w.heap.size, 2, none⟩ = some (.bool (sn (nb x))) ∧ w'.cell? ⟨w.heap.size, 3, none⟩ = some (.slice A2 (ln (ab (nb x))) (ln (ab (nb x)))) ∧ w'.cell? ⟨w.heap.size, 4, none⟩ = some (.slice A3 (ln (un x)) (ln (un x)))) (first | with_reducible exact ⟨s0_0, s0_1, s0_2, s0_3, s0_4⟩ | with_reducible exact ⟨s0_0, s0_1, s0_2, s0_3, s0_4⟩ | exact ⟨s0_0, s0_1, s0_2, s0_3, s0_4⟩) (first
    | (go_at_call 36; refine (den_any x A1 A2 A3 _ (by exact hx)).mono ?_; rintro e w2 ⟨D, rfl, hD, hb2⟩; have hb2 := undrew hb2; replace s0_0 := keepc hb2 s0_0 l0; replace s0_1 := keepc hb2 s0_1 l0; replace s0_2 := keepc hb2 s0_2 l0; replace s0_3 := keepc hb2 s0_3 l0; replace s0_4 := keepc hb2 s0_4 l0; replace l0 := Nat.lt_of_lt_of_le l0 hb2.size; replace hx := hx.to hb2; replace HW := Lib.hid (hstep HW hb2); clear hb2)
    | (go_at_call 65; refine (part_any (na x) (nd x) A1 D _ (by exact hx.1) (by exact hD) (Nat.le_trans HS.out.1 (by omega)) (Nat.le_trans HS.out.2.2 (by omega)) (nd_ne0 x)).mono ?_; rintro e w3 ⟨rfl, hb3⟩; replace s0_0 := keepc hb3 s0_0 l0; replace s0_1 := keepc hb3 s0_1 l0; replace s0_2 := keepc hb3 s0_2 l0; replace s0_3 := keepc hb3 s0_3 l0; replace s0_4 := keepc hb3 s0_4 l0; replace l0 := Nat.lt_of_lt_of_le l0 hb3.size; replace hx := hx.to hb3; replace hD := hD.to hb3; replace HW := Lib.hid (hstep HW hb3); clear hb3; clear hD))
  go_wp2_with fail
  go_ret
  exact ⟨by first | rfl | (unfold imT; simp [ByteArray.append_assoc]), HW.out⟩
set_option maxHeartbeats 4000000 in
theorem text_imag (x : Cx) (A1 A2 A3 : Option Addr) (w : World) (hx : Num3 w A1 A2 A3 x) (hs : sz 274877906944 x) (h : nb x ≠ 0) (k : na x = 0) :
    Calls Try.prog 41 #[.agg #[.bool (sn (na x)), .slice A1 (ln (ab (na x))) (ln (ab (na x))), .bool (sn (nb x)), .slice A2 (ln (ab (nb x))) (ln (ab (nb x))), .slice A3 (ln (un x)) (ln (un x))]] w (RetStr w (textT x)) := by
  have HS : Hid (sz 274877906944 x) := Lib.hid hs
  have HT : Hid (textT x = imT x) := Lib.hid (by unfold textT; simp [h, k])
  have t1 : Hid (decide (nb x = 0) = false) := Lib.hid (decide_eq_false h)
  have hk := Lib.hid k
  have zr : (partT (fr (na x) 0 (nd x))).size ≤ 70368744177664 := partT_size (fr_sz (nd_ne0 x) (Nat.le_trans hs.1 (by omega)) (by show ln 0 ≤ _; rw [ln_zero]; omega) (Nat.le_trans hs.2.2 (by omega)))
  have zi : (partT (fr (nb x) 0 (nd x))).size ≤ 70368744177664 := partT_size (fr_sz (nd_ne0 x) (Nat.le_trans hs.2.1 (by omega)) (by show ln 0 ≤ _; rw [ln_zero]; omega) (Nat.le_trans hs.2.2 (by omega)))
  have y1 : ¬ (9223372036854775807 < (partT (fr (nb x) 0 (nd x))).size + 1) := by omega
  have y2 : ¬ (9223372036854775807 < 1 + ((partT (fr (nb x) 0 (nd x))).size + 1)) := by omega
  have y3 : ¬ (9223372036854775807 < (partT (fr (na x) 0 (nd x))).size + ((partT (fr (nb x) 0 (nd x))).size + 1)) := by omega
  have y4 : ¬ (9223372036854775807 < (partT (fr (na x) 0 (nd x))).size + (1 + ((partT (fr (nb x) 0 (nd x))).size + 1))) := by omega
  rw [HT.out]
  clear h hs k
  go_enter Try.func41, Try.ntmps41
  go_wp2_with fail
  obtain ⟨W, hW⟩ : ∃ W : World, W = (w.alloc (.cells #[.bool (sn (na x)), .slice A1 (ln (ab (na x))) (ln (ab (na x))), .bool (sn (nb x)), .slice A2 (ln (ab (nb x))) (ln (ab (nb x))), .slice A3 (ln (un x)) (ln (un x))] 34)) := ⟨_, rfl⟩
  have s0_0 : W.cell? ⟨w.heap.size, 0, none⟩ = some (.bool (sn (na x))) := by subst hW; go_simp
  have s0_1 : W.cell? ⟨w.heap.size, 1, none⟩ = some (.slice A1 (ln (ab (na x))) (ln (ab (na x)))) := by subst hW; go_simp
  have s0_2 : W.cell? ⟨w.heap.size, 2, none⟩ = some (.bool (sn (nb x))) := by subst hW; go_simp
  have s0_3 : W.cell? ⟨w.heap.size, 3, none⟩ = some (.slice A2 (ln (ab (nb x))) (ln (ab (nb x)))) := by subst hW; go_simp
  have s0_4 : W.cell? ⟨w.heap.size, 4, none⟩ = some (.slice A3 (ln (un x)) (ln (un x))) := by subst hW; go_simp
  have HW : Below w.heap.size w W := by subst hW; exact ((Below.refl w.heap.size w).alloc (Nat.le_refl _) _)
  have l0 : w.heap.size < W.heap.size := by subst hW; simp
  replace hx := hx.to HW
  rw [← hW]
  clear hW
  replace HW := Lib.hid HW
  refine (real_to x A1 A2 A3 _ (by exact hx) t1.out).mono ?_
  rintro e w1 ⟨rfl, hb1⟩
  replace s0_0 := keepc hb1 s0_0 l0
  replace s0_1 := keepc hb1 s0_1 l0
  replace s0_2 := keepc hb1 s0_2 l0
  replace s0_3 := keepc hb1 s0_3 l0
  replace s0_4 := keepc hb1 s0_4 l0
  replace l0 := Nat.lt_of_lt_of_le l0 hb1.size
  replace hx := hx.to hb1
  replace HW := Lib.hid (hstep HW hb1)
  clear hb1
  go_wp2_with fail
  have t2 : ((ln (ab (na x)) : Int) == 0) = true := by rw [hk.out, show ab 0 = 0 from rfl, ln_zero]; rfl
  go_region_held3 (fun w' => w'.cell? ⟨w.heap.size, 0, none⟩ = some (.bool (sn (na x))) ∧ w'.cell? ⟨w.heap.size, 1, none⟩ = some (.slice A1 (ln (ab (na x))) (ln (ab (na x)))) ∧ w'.cell? ⟨w.heap.size, 2, none⟩ = some (.bool (sn (nb x))) ∧ w'.cell? ⟨w.heap.size, 3, none⟩ = some (.slice A2 (ln (ab (nb x))) (ln (ab (nb x)))) ∧ w'.cell? ⟨w.heap.size, 4, none⟩ = some (.slice A3 (ln (un x)) (ln (un x)))) (first | with_reducible exact ⟨s0_0, s0_1, s0_2, s0_3, s0_4⟩ | with_reducible exact ⟨s0_0, s0_1, s0_2, s0_3, s0_4⟩ | exact ⟨s0_0, s0_1, s0_2, s0_3, s0_4⟩) (first
    | (go_at_call 36; refine (den_any x A1 A2 A3 _ (by exact hx)).mono ?_; rintro e w2 ⟨D, rfl, hD, hb2⟩; have hb2 := undrew hb2; replace s0_0 := keepc hb2 s0_0 l0; replace s0_1 := keepc hb2 s0_1 l0; replace s0_2 := keepc hb2 s0_2 l0; replace s0_3 := keepc hb2 s0_3 l0; replace s0_4 := keepc hb2 s0_4 l0; replace l0 := Nat.lt_of_lt_of_le l0 hb2.size; replace hx := hx.to hb2; replace HW := Lib.hid (hstep HW hb2); clear hb2)
    | (go_at_call 65; refine (part_any (nb x) (nd x) A2 D _ (by exact hx.2.1) (by exact hD) (Nat.le_trans HS.out.2.1 (by omega)) (Nat.le_trans HS.out.2.2 (by omega)) (nd_ne0 x)).mono ?_; rintro e w3 ⟨rfl, hb3⟩; replace s0_0 := keepc hb3 s0_0 l0; replace s0_1 := keepc hb3 s0_1 l0; replace s0_2 := keepc hb3 s0_2 l0; replace s0_3 := keepc hb3 s0_3 l0; replace s0_4 := keepc hb3 s0_4 l0; replace l0 := Nat.lt_of_lt_of_le l0 hb3.size; replace hx := hx.to hb3; replace hD := hD.to hb3; replace HW := Lib.hid (hstep HW hb3); clear hb3; clear hD))
  go_wp2_with fail
  go_ret
  exact ⟨by first | rfl | (unfold imT; simp [ByteArray.append_assoc]), HW.out⟩
set_option maxHeartbeats 4000000 in
theorem text_minus (x : Cx) (A1 A2 A3 : Option Addr) (w : World) (hx : Num3 w A1 A2 A3 x) (hs : sz 274877906944 x) (h : nb x ≠ 0) (k : na x ≠ 0) (m : sn (nb x) = true) :
    Calls Try.prog 41 #[.agg #[.bool (sn (na x)), .slice A1 (ln (ab (na x))) (ln (ab (na x))), .bool (sn (nb x)), .slice A2 (ln (ab (nb x))) (ln (ab (nb x))), .slice A3 (ln (un x)) (ln (un x))]] w (RetStr w (textT x)) := by
  have HS : Hid (sz 274877906944 x) := Lib.hid hs
  have HT : Hid (textT x = partT (fr (na x) 0 (nd x)) ++ imT x) := Lib.hid (by unfold textT; simp [h, k, m])
  have t1 : Hid (decide (nb x = 0) = false) := Lib.hid (decide_eq_false h)
  have hk := Lib.hid k
  have hm := Lib.hid m
  have zr : (partT (fr (na x) 0 (nd x))).size ≤ 70368744177664 := partT_size (fr_sz (nd_ne0 x) (Nat.le_trans hs.1 (by omega)) (by show ln 0 ≤ _; rw [ln_zero]; omega) (Nat.le_trans hs.2.2 (by omega)))
  have zi : (partT (fr (nb x) 0 (nd x))).size ≤ 70368744177664 := partT_size (fr_sz (nd_ne0 x) (Nat.le_trans hs.2.1 (by omega)) (by show ln 0 ≤ _; rw [ln_zero]; omega) (Nat.le_trans hs.2.2 (by omega)))
  have y1 : ¬ (9223372036854775807 < (partT (fr (nb x) 0 (nd x))).size + 1) := by omega
  have y2 : ¬ (9223372036854775807 < 1 + ((partT (fr (nb x) 0 (nd x))).size + 1)) := by omega
  have y3 : ¬ (9223372036854775807 < (partT (fr (na x) 0 (nd x))).size + ((partT (fr (nb x) 0 (nd x))).size + 1)) := by omega
  have y4 : ¬ (9223372036854775807 < (partT (fr (na x) 0 (nd x))).size + (1 + ((partT (fr (nb x) 0 (nd x))).size + 1))) := by omega
  rw [HT.out]
  clear h hs k m
  go_enter Try.func41, Try.ntmps41
  go_wp2_with fail
  obtain ⟨W, hW⟩ : ∃ W : World, W = (w.alloc (.cells #[.bool (sn (na x)), .slice A1 (ln (ab (na x))) (ln (ab (na x))), .bool (sn (nb x)), .slice A2 (ln (ab (nb x))) (ln (ab (nb x))), .slice A3 (ln (un x)) (ln (un x))] 34)) := ⟨_, rfl⟩
  have s0_0 : W.cell? ⟨w.heap.size, 0, none⟩ = some (.bool (sn (na x))) := by subst hW; go_simp
  have s0_1 : W.cell? ⟨w.heap.size, 1, none⟩ = some (.slice A1 (ln (ab (na x))) (ln (ab (na x)))) := by subst hW; go_simp
  have s0_2 : W.cell? ⟨w.heap.size, 2, none⟩ = some (.bool (sn (nb x))) := by subst hW; go_simp
  have s0_3 : W.cell? ⟨w.heap.size, 3, none⟩ = some (.slice A2 (ln (ab (nb x))) (ln (ab (nb x)))) := by subst hW; go_simp
  have s0_4 : W.cell? ⟨w.heap.size, 4, none⟩ = some (.slice A3 (ln (un x)) (ln (un x))) := by subst hW; go_simp
  have HW : Below w.heap.size w W := by subst hW; exact ((Below.refl w.heap.size w).alloc (Nat.le_refl _) _)
  have l0 : w.heap.size < W.heap.size := by subst hW; simp
  replace hx := hx.to HW
  rw [← hW]
  clear hW
  replace HW := Lib.hid HW
  refine (real_to x A1 A2 A3 _ (by exact hx) t1.out).mono ?_
  rintro e w1 ⟨rfl, hb1⟩
  replace s0_0 := keepc hb1 s0_0 l0
  replace s0_1 := keepc hb1 s0_1 l0
  replace s0_2 := keepc hb1 s0_2 l0
  replace s0_3 := keepc hb1 s0_3 l0
  replace s0_4 := keepc hb1 s0_4 l0
  replace l0 := Nat.lt_of_lt_of_le l0 hb1.size
  replace hx := hx.to hb1
  replace HW := Lib.hid (hstep HW hb1)
  clear hb1
  go_wp2_with fail
  have t2 : ((ln (ab (na x)) : Int) == 0) = false := by rw [beq_eq_false_iff_ne]; have h := hk.out; have := ln_pos (n := ab (na x)) (by unfold ab; omega); omega
  go_region_held3 (fun w' => w'.cell? ⟨w.heap.size, 0, none⟩ = some (.bool (sn (na x))) ∧ w'.cell? ⟨w.heap.size, 1, none⟩ = some (.slice A1 (ln (ab (na x))) (ln (ab (na x)))) ∧ w'.cell? ⟨w.heap.size, 2, none⟩ = some (.bool (sn (nb x))) ∧ w'.cell? ⟨w.heap.size, 3, none⟩ = some (.slice A2 (ln (ab (nb x))) (ln (ab (nb x)))) ∧ w'.cell? ⟨w.heap.size, 4, none⟩ = some (.slice A3 (ln (un x)) (ln (un x)))) (first | with_reducible exact ⟨s0_0, s0_1, s0_2, s0_3, s0_4⟩ | with_reducible exact ⟨s0_0, s0_1, s0_2, s0_3, s0_4⟩ | exact ⟨s0_0, s0_1, s0_2, s0_3, s0_4⟩) (first
    | (go_at_call 36; refine (den_any x A1 A2 A3 _ (by exact hx)).mono ?_; rintro e w2 ⟨D, rfl, hD, hb2⟩; have hb2 := undrew hb2; replace s0_0 := keepc hb2 s0_0 l0; replace s0_1 := keepc hb2 s0_1 l0; replace s0_2 := keepc hb2 s0_2 l0; replace s0_3 := keepc hb2 s0_3 l0; replace s0_4 := keepc hb2 s0_4 l0; replace l0 := Nat.lt_of_lt_of_le l0 hb2.size; replace hx := hx.to hb2; replace HW := Lib.hid (hstep HW hb2); clear hb2)
    | (go_at_call 65; refine (part_any (nb x) (nd x) A2 D _ (by exact hx.2.1) (by exact hD) (Nat.le_trans HS.out.2.1 (by omega)) (Nat.le_trans HS.out.2.2 (by omega)) (nd_ne0 x)).mono ?_; rintro e w3 ⟨rfl, hb3⟩; replace s0_0 := keepc hb3 s0_0 l0; replace s0_1 := keepc hb3 s0_1 l0; replace s0_2 := keepc hb3 s0_2 l0; replace s0_3 := keepc hb3 s0_3 l0; replace s0_4 := keepc hb3 s0_4 l0; replace l0 := Nat.lt_of_lt_of_le l0 hb3.size; replace hx := hx.to hb3; replace hD := hD.to hb3; replace HW := Lib.hid (hstep HW hb3); clear hb3; clear hD))
  have k2 := Lib.hid s0_2
  rw [hm.out] at s0_2
  go_wp2_with fail
  replace s0_2 := k2.out
  clear k2
  go_region_held3 (fun w' => w'.cell? ⟨w.heap.size, 0, none⟩ = some (.bool (sn (na x))) ∧ w'.cell? ⟨w.heap.size, 1, none⟩ = some (.slice A1 (ln (ab (na x))) (ln (ab (na x)))) ∧ w'.cell? ⟨w.heap.size, 2, none⟩ = some (.bool (sn (nb x))) ∧ w'.cell? ⟨w.heap.size, 3, none⟩ = some (.slice A2 (ln (ab (nb x))) (ln (ab (nb x)))) ∧ w'.cell? ⟨w.heap.size, 4, none⟩ = some (.slice A3 (ln (un x)) (ln (un x)))) (first | with_reducible exact ⟨s0_0, s0_1, s0_2, s0_3, s0_4⟩ | with_reducible exact ⟨s0_0, s0_1, s0_2, s0_3, s0_4⟩ | exact ⟨s0_0, s0_1, s0_2, s0_3, s0_4⟩) (first
    | (go_at_call 36; refine (den_any x A1 A2 A3 _ (by exact hx)).mono ?_; rintro e w4 ⟨D, rfl, hD, hb4⟩; have hb4 := undrew hb4; replace s0_0 := keepc hb4 s0_0 l0; replace s0_1 := keepc hb4 s0_1 l0; replace s0_2 := keepc hb4 s0_2 l0; replace s0_3 := keepc hb4 s0_3 l0; replace s0_4 := keepc hb4 s0_4 l0; replace l0 := Nat.lt_of_lt_of_le l0 hb4.size; replace hx := hx.to hb4; replace HW := Lib.hid (hstep HW hb4); clear hb4)
    | (go_at_call 65; refine (part_any (na x) (nd x) A1 D _ (by exact hx.1) (by exact hD) (Nat.le_trans HS.out.1 (by omega)) (Nat.le_trans HS.out.2.2 (by omega)) (nd_ne0 x)).mono ?_; rintro e w5 ⟨rfl, hb5⟩; replace s0_0 := keepc hb5 s0_0 l0; replace s0_1 := keepc hb5 s0_1 l0; replace s0_2 := keepc hb5 s0_2 l0; replace s0_3 := keepc hb5 s0_3 l0; replace s0_4 := keepc hb5 s0_4 l0; replace l0 := Nat.lt_of_lt_of_le l0 hb5.size; replace hx := hx.to hb5; replace hD := hD.to hb5; replace HW := Lib.hid (hstep HW hb5); clear hb5; clear hD))
  go_wp2_with fail
  go_ret
  exact ⟨by first | rfl | (unfold imT; simp [ByteArray.append_assoc]), HW.out⟩
set_option maxHeartbeats 4000000 in
theorem text_plus (x : Cx) (A1 A2 A3 : Option Addr) (w : World) (hx : Num3 w A1 A2 A3 x) (hs : sz 274877906944 x) (h : nb x ≠ 0) (k : na x ≠ 0) (m : sn (nb x) = false) :
    Calls Try.prog 41 #[.agg #[.bool (sn (na x)), .slice A1 (ln (ab (na x))) (ln (ab (na x))), .bool (sn (nb x)), .slice A2 (ln (ab (nb x))) (ln (ab (nb x))), .slice A3 (ln (un x)) (ln (un x))]] w (RetStr w (textT x)) := by
  have HS : Hid (sz 274877906944 x) := Lib.hid hs
  have HT : Hid (textT x = partT (fr (na x) 0 (nd x)) ++ (⟨#[43]⟩ ++ imT x)) := Lib.hid (by unfold textT; simp [h, k, m])
  have t1 : Hid (decide (nb x = 0) = false) := Lib.hid (decide_eq_false h)
  have hk := Lib.hid k
  have hm := Lib.hid m
  have zr : (partT (fr (na x) 0 (nd x))).size ≤ 70368744177664 := partT_size (fr_sz (nd_ne0 x) (Nat.le_trans hs.1 (by omega)) (by show ln 0 ≤ _; rw [ln_zero]; omega) (Nat.le_trans hs.2.2 (by omega)))
  have zi : (partT (fr (nb x) 0 (nd x))).size ≤ 70368744177664 := partT_size (fr_sz (nd_ne0 x) (Nat.le_trans hs.2.1 (by omega)) (by show ln 0 ≤ _; rw [ln_zero]; omega) (Nat.le_trans hs.2.2 (by omega)))
  have y1 : ¬ (9223372036854775807 < (partT (fr (nb x) 0 (nd x))).size + 1) := by omega
  have y2 : ¬ (9223372036854775807 < 1 + ((partT (fr (nb x) 0 (nd x))).size + 1)) := by omega
  have y3 : ¬ (9223372036854775807 < (partT (fr (na x) 0 (nd x))).size + ((partT (fr (nb x) 0 (nd x))).size + 1)) := by omega
  have y4 : ¬ (9223372036854775807 < (partT (fr (na x) 0 (nd x))).size + (1 + ((partT (fr (nb x) 0 (nd x))).size + 1))) := by omega
  rw [HT.out]
  clear h hs k m
  go_enter Try.func41, Try.ntmps41
  go_wp2_with fail
  obtain ⟨W, hW⟩ : ∃ W : World, W = (w.alloc (.cells #[.bool (sn (na x)), .slice A1 (ln (ab (na x))) (ln (ab (na x))), .bool (sn (nb x)), .slice A2 (ln (ab (nb x))) (ln (ab (nb x))), .slice A3 (ln (un x)) (ln (un x))] 34)) := ⟨_, rfl⟩
  have s0_0 : W.cell? ⟨w.heap.size, 0, none⟩ = some (.bool (sn (na x))) := by subst hW; go_simp
  have s0_1 : W.cell? ⟨w.heap.size, 1, none⟩ = some (.slice A1 (ln (ab (na x))) (ln (ab (na x)))) := by subst hW; go_simp
  have s0_2 : W.cell? ⟨w.heap.size, 2, none⟩ = some (.bool (sn (nb x))) := by subst hW; go_simp
  have s0_3 : W.cell? ⟨w.heap.size, 3, none⟩ = some (.slice A2 (ln (ab (nb x))) (ln (ab (nb x)))) := by subst hW; go_simp
  have s0_4 : W.cell? ⟨w.heap.size, 4, none⟩ = some (.slice A3 (ln (un x)) (ln (un x))) := by subst hW; go_simp
  have HW : Below w.heap.size w W := by subst hW; exact ((Below.refl w.heap.size w).alloc (Nat.le_refl _) _)
  have l0 : w.heap.size < W.heap.size := by subst hW; simp
  replace hx := hx.to HW
  rw [← hW]
  clear hW
  replace HW := Lib.hid HW
  refine (real_to x A1 A2 A3 _ (by exact hx) t1.out).mono ?_
  rintro e w1 ⟨rfl, hb1⟩
  replace s0_0 := keepc hb1 s0_0 l0
  replace s0_1 := keepc hb1 s0_1 l0
  replace s0_2 := keepc hb1 s0_2 l0
  replace s0_3 := keepc hb1 s0_3 l0
  replace s0_4 := keepc hb1 s0_4 l0
  replace l0 := Nat.lt_of_lt_of_le l0 hb1.size
  replace hx := hx.to hb1
  replace HW := Lib.hid (hstep HW hb1)
  clear hb1
  go_wp2_with fail
  have t2 : ((ln (ab (na x)) : Int) == 0) = false := by rw [beq_eq_false_iff_ne]; have h := hk.out; have := ln_pos (n := ab (na x)) (by unfold ab; omega); omega
  go_region_held3 (fun w' => w'.cell? ⟨w.heap.size, 0, none⟩ = some (.bool (sn (na x))) ∧ w'.cell? ⟨w.heap.size, 1, none⟩ = some (.slice A1 (ln (ab (na x))) (ln (ab (na x)))) ∧ w'.cell? ⟨w.heap.size, 2, none⟩ = some (.bool (sn (nb x))) ∧ w'.cell? ⟨w.heap.size, 3, none⟩ = some (.slice A2 (ln (ab (nb x))) (ln (ab (nb x)))) ∧ w'.cell? ⟨w.heap.size, 4, none⟩ = some (.slice A3 (ln (un x)) (ln (un x)))) (first | with_reducible exact ⟨s0_0, s0_1, s0_2, s0_3, s0_4⟩ | with_reducible exact ⟨s0_0, s0_1, s0_2, s0_3, s0_4⟩ | exact ⟨s0_0, s0_1, s0_2, s0_3, s0_4⟩) (first
    | (go_at_call 36; refine (den_any x A1 A2 A3 _ (by exact hx)).mono ?_; rintro e w2 ⟨D, rfl, hD, hb2⟩; have hb2 := undrew hb2; replace s0_0 := keepc hb2 s0_0 l0; replace s0_1 := keepc hb2 s0_1 l0; replace s0_2 := keepc hb2 s0_2 l0; replace s0_3 := keepc hb2 s0_3 l0; replace s0_4 := keepc hb2 s0_4 l0; replace l0 := Nat.lt_of_lt_of_le l0 hb2.size; replace hx := hx.to hb2; replace HW := Lib.hid (hstep HW hb2); clear hb2)
    | (go_at_call 65; refine (part_any (nb x) (nd x) A2 D _ (by exact hx.2.1) (by exact hD) (Nat.le_trans HS.out.2.1 (by omega)) (Nat.le_trans HS.out.2.2 (by omega)) (nd_ne0 x)).mono ?_; rintro e w3 ⟨rfl, hb3⟩; replace s0_0 := keepc hb3 s0_0 l0; replace s0_1 := keepc hb3 s0_1 l0; replace s0_2 := keepc hb3 s0_2 l0; replace s0_3 := keepc hb3 s0_3 l0; replace s0_4 := keepc hb3 s0_4 l0; replace l0 := Nat.lt_of_lt_of_le l0 hb3.size; replace hx := hx.to hb3; replace hD := hD.to hb3; replace HW := Lib.hid (hstep HW hb3); clear hb3; clear hD))
  have k2 := Lib.hid s0_2
  rw [hm.out] at s0_2
  go_wp2_with fail
  replace s0_2 := k2.out
  clear k2
  go_region_held3 (fun w' => w'.cell? ⟨w.heap.size, 0, none⟩ = some (.bool (sn (na x))) ∧ w'.cell? ⟨w.heap.size, 1, none⟩ = some (.slice A1 (ln (ab (na x))) (ln (ab (na x)))) ∧ w'.cell? ⟨w.heap.size, 2, none⟩ = some (.bool (sn (nb x))) ∧ w'.cell? ⟨w.heap.size, 3, none⟩ = some (.slice A2 (ln (ab (nb x))) (ln (ab (nb x)))) ∧ w'.cell? ⟨w.heap.size, 4, none⟩ = some (.slice A3 (ln (un x)) (ln (un x)))) (first | with_reducible exact ⟨s0_0, s0_1, s0_2, s0_3, s0_4⟩ | with_reducible exact ⟨s0_0, s0_1, s0_2, s0_3, s0_4⟩ | exact ⟨s0_0, s0_1, s0_2, s0_3, s0_4⟩) (first
    | (go_at_call 36; refine (den_any x A1 A2 A3 _ (by exact hx)).mono ?_; rintro e w4 ⟨D, rfl, hD, hb4⟩; have hb4 := undrew hb4; replace s0_0 := keepc hb4 s0_0 l0; replace s0_1 := keepc hb4 s0_1 l0; replace s0_2 := keepc hb4 s0_2 l0; replace s0_3 := keepc hb4 s0_3 l0; replace s0_4 := keepc hb4 s0_4 l0; replace l0 := Nat.lt_of_lt_of_le l0 hb4.size; replace hx := hx.to hb4; replace HW := Lib.hid (hstep HW hb4); clear hb4)
    | (go_at_call 65; refine (part_any (na x) (nd x) A1 D _ (by exact hx.1) (by exact hD) (Nat.le_trans HS.out.1 (by omega)) (Nat.le_trans HS.out.2.2 (by omega)) (nd_ne0 x)).mono ?_; rintro e w5 ⟨rfl, hb5⟩; replace s0_0 := keepc hb5 s0_0 l0; replace s0_1 := keepc hb5 s0_1 l0; replace s0_2 := keepc hb5 s0_2 l0; replace s0_3 := keepc hb5 s0_3 l0; replace s0_4 := keepc hb5 s0_4 l0; replace l0 := Nat.lt_of_lt_of_le l0 hb5.size; replace hx := hx.to hb5; replace hD := hD.to hb5; replace HW := Lib.hid (hstep HW hb5); clear hb5; clear hD))
  go_wp2_with fail
  go_ret
  exact ⟨by first | rfl | (unfold imT; simp [ByteArray.append_assoc]), HW.out⟩
theorem text_any (x : Cx) (A1 A2 A3 : Option Addr) (w : World) (hx : Num3 w A1 A2 A3 x) (hs : sz 274877906944 x) :
    Calls Try.prog 41 #[.agg #[.bool (sn (na x)), .slice A1 (ln (ab (na x))) (ln (ab (na x))), .bool (sn (nb x)), .slice A2 (ln (ab (nb x))) (ln (ab (nb x))), .slice A3 (ln (un x)) (ln (un x))]] w (RetStr w (textT x)) := by
  by_cases h : nb x = 0
  · exact text_real x A1 A2 A3 w hx hs h
  · by_cases k : na x = 0
    · exact text_imag x A1 A2 A3 w hx hs h k
    · cases m : sn (nb x) with
      | true => have := text_minus x A1 A2 A3 w hx hs h k m; rwa [m] at this
      | false => have := text_plus x A1 A2 A3 w hx hs h k m; rwa [m] at this
end Go.Proofs.Ytdpjknjlhchmcaa

namespace Go.Proofs.Ytdpjknjlhchmcaa
open Go.RowKit Pl
set_option linter.unusedVariables false
set_option linter.unusedSimpArgs false
theorem nrm_ne0 {y : Cx} (h : y ≠ Cx.zero) : y.nrm ≠ 0 := by
  intro e
  apply norm_ne h
  have := ab_norm y
  rw [e] at this
  have e2 : ((ab (na y * na y + nb y * nb y) : Nat) : Rat) = 0 := by rw [this]; grind
  exact_mod_cast e2
theorem la8 (x : Cx) {y : Cx} (h : y ≠ Cx.zero) : decide ((x.div y).mul y = x) = true := decide_eq_true (by
  have hn := nrm_ne0 h
  refine Cx.ext' ?_ ?_ <;> simp only [Cx.div, Cx.mul] <;> unfold Cx.nrm at * <;> generalize e : y.re * y.re + y.im * y.im = m at * <;> grind)
theorem la13 {y : Cx} (h : y = Cx.zero) : (!decide (y = Cx.zero)) = false := by rw [decide_eq_true h]; rfl
theorem la14 {y : Cx} (h : y ≠ Cx.zero) : (!decide (y = Cx.zero)) = true := by rw [decide_eq_false h]; rfl
end Go.Proofs.Ytdpjknjlhchmcaa

namespace Go.Proofs.Ytdpjknjlhchmcaa
open Go.RowKit Pl
set_option linter.unusedVariables false
set_option linter.unusedSimpArgs false
/-- The second number of a row. -/
def At5 (w : World) (g : Nat) (q : Cx) (A1 A2 A3 : Option Addr) : Prop := g < w.heap.size ∧ (w.cell? ⟨g, 5, none⟩ = some (.bool (sn (na q))) ∧ w.cell? ⟨g, 6, none⟩ = some (.slice A1 (ln (ab (na q))) (ln (ab (na q)))) ∧ w.cell? ⟨g, 7, none⟩ = some (.bool (sn (nb q))) ∧ w.cell? ⟨g, 8, none⟩ = some (.slice A2 (ln (ab (nb q))) (ln (ab (nb q)))) ∧ w.cell? ⟨g, 9, none⟩ = some (.slice A3 (ln (un q)) (ln (un q)))) ∧ Num3 w A1 A2 A3 q
theorem At5.to {w w' : World} {g : Nat} {q : Cx} {A1 A2 A3 : Option Addr} (h : At5 w g q A1 A2 A3) (hb : Below w.heap.size w w') : At5 w' g q A1 A2 A3 := by
  obtain ⟨h2, ⟨c0, c1, c2, c3, c4⟩, h3⟩ := h
  exact ⟨Nat.lt_of_lt_of_le h2 hb.size, ⟨keepc hb c0 h2, keepc hb c1 h2, keepc hb c2 h2, keepc hb c3 h2, keepc hb c4 h2⟩, h3.to hb⟩
/-- A Num is stored as the second number of the row p. -/
def set55 (w : World) (p : Nat) (q : Cx) (A1 A2 A3 : Option Addr) : World :=
  ((((w.setCell ⟨p, 5, none⟩ (.bool (sn (na q)))).setCell ⟨p, 6, none⟩ (.slice A1 (ln (ab (na q))) (ln (ab (na q))))).setCell ⟨p, 7, none⟩ (.bool (sn (nb q)))).setCell ⟨p, 8, none⟩ (.slice A2 (ln (ab (nb q))) (ln (ab (nb q))))).setCell ⟨p, 9, none⟩ (.slice A3 (ln (un q)) (ln (un q)))
theorem set55_size (w : World) (p : Nat) (q : Cx) (A1 A2 A3 : Option Addr) : (set55 w p q A1 A2 A3).heap.size = w.heap.size := by simp [set55, World.setCell]
theorem set55_cell {w : World} {p b i : Nat} {q : Cx} {A1 A2 A3 : Option Addr} {v : Value} (h : w.cell? ⟨b, i, none⟩ = some v) (h1 : b ≠ p ∨ i < 5) : (set55 w p q A1 A2 A3).cell? ⟨b, i, none⟩ = some v := keepo (keepo (keepo (keepo (keepo h (by omega)) (by omega)) (by omega)) (by omega)) (by omega)
theorem set55_below {w W : World} {B p : Nat} {q : Cx} {A1 A2 A3 : Option Addr} (h : Below B w W) (hp : B ≤ p) : Below B w (set55 W p q A1 A2 A3) :=
  ((((h.setCell (by exact hp) _).setCell (by exact hp) _).setCell (by exact hp) _).setCell (by exact hp) _).setCell (by exact hp) _
theorem set55_nat {w : World} {p n : Nat} {q : Cx} {A1 A2 A3 A : Option Addr} {c : Bool} (h : Nat32 w A n) (u : w.cell? ⟨p, 0, none⟩ = some (.bool c)) : Nat32 (set55 w p q A1 A2 A3) A n := by
  have nb : ∀ (b : Bool) k m, Value.bool b ≠ .int k m := by intro b k m e; cases e
  have a1 := keepo (R := p) (j := 5) (u := .bool (sn (na q))) u (.inr (by omega))
  have a2 := keepo (R := p) (j := 6) (u := .slice A1 (ln (ab (na q))) (ln (ab (na q)))) a1 (.inr (by omega))
  have a3 := keepo (R := p) (j := 7) (u := .bool (sn (Pl.nb q))) a2 (.inr (by omega))
  have a4 := keepo (R := p) (j := 8) (u := .slice A2 (ln (ab (Pl.nb q))) (ln (ab (Pl.nb q)))) a3 (.inr (by omega))
  exact ((((h.setBox u (nb _)).setBox a1 (nb _)).setBox a2 (nb _)).setBox a3 (nb _)).setBox a4 (nb _)
theorem set55_num3 {w : World} {p : Nat} {q r : Cx} {A1 A2 A3 B1 B2 B3 : Option Addr} {c : Bool} (h : Num3 w B1 B2 B3 r) (u : w.cell? ⟨p, 0, none⟩ = some (.bool c)) : Num3 (set55 w p q A1 A2 A3) B1 B2 B3 r := ⟨set55_nat h.1 u, set55_nat h.2.1 u, set55_nat h.2.2 u⟩
theorem set55_var {w : World} {p g : Nat} {q r : Cx} {A1 A2 A3 B1 B2 B3 : Option Addr} {c : Bool} (h : VarAt w g r B1 B2 B3) (u : w.cell? ⟨p, 0, none⟩ = some (.bool c)) : VarAt (set55 w p q A1 A2 A3) g r B1 B2 B3 := by
  obtain ⟨h2, ⟨c0, c1, c2, c3, c4⟩, h3⟩ := h
  exact ⟨by rw [set55_size]; exact h2, ⟨set55_cell c0 (by omega), set55_cell c1 (by omega), set55_cell c2 (by omega), set55_cell c3 (by omega), set55_cell c4 (by omega)⟩, set55_num3 h3 u⟩
theorem set55_at5 {w : World} {p : Nat} {q : Cx} {A1 A2 A3 : Option Addr} {c : Bool} {v0 v1 v2 v3 v4 : Value} (hp : p < w.heap.size) (hq : Num3 w A1 A2 A3 q) (u : w.cell? ⟨p, 0, none⟩ = some (.bool c)) (u0 : w.cell? ⟨p, 5, none⟩ = some v0) (u1 : w.cell? ⟨p, 6, none⟩ = some v1) (u2 : w.cell? ⟨p, 7, none⟩ = some v2) (u3 : w.cell? ⟨p, 8, none⟩ = some v3) (u4 : w.cell? ⟨p, 9, none⟩ = some v4) : At5 (set55 w p q A1 A2 A3) p q A1 A2 A3 := by
  refine ⟨by rw [set55_size]; exact hp, ?_, set55_num3 hq u⟩
  unfold set55
  have o0 := cell_self (u := .bool (sn (na q))) u0
  refine ⟨?_, ?_, ?_, ?_, ?_⟩
  · exact keepo (keepo (keepo (keepo o0 (by omega)) (by omega)) (by omega)) (by omega)
  · exact keepo (keepo (keepo (cell_self (keepo u1 (by omega))) (by omega)) (by omega)) (by omega)
  · exact keepo (keepo (cell_self (keepo (keepo u2 (by omega)) (by omega))) (by omega)) (by omega)
  · exact keepo (cell_self (keepo (keepo (keepo u3 (by omega)) (by omega)) (by omega))) (by omega)
  · exact cell_self (keepo (keepo (keepo (keepo u4 (by omega)) (by omega)) (by omega)) (by omega))
/-- An operation is taken first; its slot is named. -/
theorem takeH {P : Program} {md : Region.Mode} {ops : Array Oper} {Q : Exit → Act → World → Prop} {S : World → Prop} {i d : Nat} {oi : Oper} {v : Value} {fuel : Nat} {listed : Array Bool} {a : Act} {w : World} (hi : ops[i]? = some oi) (hd : oi.dst = some d)
    (hs : Region.noSelect ops = true) (hf : Region.free md ops listed i = true) (hr : (Region.ready md ops listed).contains i = true)
    (hQ : ∀ c a w, Q (.panic c) (a.put oi.dst v) w → Q (.panic c) a w) (hy : YieldsIf P ops S oi v a) (hS : S w)
    (h : wpAnyH P md ops Q S fuel (listed.setIfInBounds i true) (a.put (some d) v) w) : wpAnyH P md ops Q S (fuel + 1) listed a w := by
  rw [← hd] at h; exact wpAnyH_take hi hs hf hr hQ hy hS h
theorem bstep {B : Nat} {w W w1 : World} (h : Hid (Below B w W)) (hB : Hid (B ≤ w.heap.size)) (hb : Below W.heap.size W w1) : Below B w w1 := h.out.trans (hb.mono (Nat.le_trans hB.out h.out.size))
set_option maxRecDepth 100000 in
set_option maxHeartbeats 8000000 in
theorem elim2 (w : World) (B p r0 r1 a0 a1 : Nat) (q00 q01 q10 q11 : Cx) (A1 A2 A3 B1 B2 B3 C1 C2 C3 E1 E2 E3 : Option Addr) (c0 : w.cell? ⟨p, 0, none⟩ = some (.slice (some ⟨r0, 0, none⟩) 2 a0)) (c1 : w.cell? ⟨p, 1, none⟩ = some (.slice (some ⟨r1, 0, none⟩) 2 a1)) (V00 : VarAt w r0 q00 A1 A2 A3) (V01 : At5 w r0 q01 B1 B2 B3) (V10 : VarAt w r1 q10 C1 C2 C3) (V11 : At5 w r1 q11 E1 E2 E3) (f5 : w.frozen? ⟨r1, 5, none⟩ = false) (f6 : w.frozen? ⟨r1, 6, none⟩ = false) (f7 : w.frozen? ⟨r1, 7, none⟩ = false) (f8 : w.frozen? ⟨r1, 8, none⟩ = false) (f9 : w.frozen? ⟨r1, 9, none⟩ = false) (hp : p < w.heap.size) (hB : B ≤ w.heap.size) (hBr : B ≤ r1) (n01 : r0 ≠ r1) (np : p ≠ r1) (z00 : sz 2 q00) (z01 : sz 2 q01) (z10 : sz 2 q10) (z11 : sz 2 q11) (h00 : q00 ≠ Cx.zero) (h11 : q11.sub ((q10.div q00).mul q01) ≠ Cx.zero) :
    Calls Try.prog 28 #[.slice (some ⟨p, 0, none⟩) 2 2] w fun e w' => e = .returned (.tuple #[.int .i64 0, .int .i64 (-1)]) ∧ w'.cell? ⟨p, 0, none⟩ = some (.slice (some ⟨r0, 0, none⟩) 2 a0) ∧ w'.cell? ⟨p, 1, none⟩ = some (.slice (some ⟨r1, 0, none⟩) 2 a1) ∧ VarAt w' r0 q00 A1 A2 A3 ∧ (∃ U1 U2 U3, At5 w' r1 (q11.sub ((q10.div q00).mul q01)) U1 U2 U3) ∧ Below B w w' := by
  have H00 := Lib.hid h00
  have H11 := Lib.hid h11
  have HB0 := Lib.hid hB
  have HBr := Lib.hid hBr
  clear h00 h11 hB hBr
  have HW : Hid (Below B w w) := Lib.hid (Below.refl _ _)
  have hmDiv : ∀ (k : Nat) (v1 v2 v3 v4 v5 : Value) (w : World), (method (k + 1) 34 (.agg #[v1, v2, v3, v4, v5]) "Div").run Try.prog w = .ok (40, .agg #[v1, v2, v3, v4, v5]) w := fun _ _ _ _ _ _ _ => by kernel_rfl
  have hmMul : ∀ (k : Nat) (v1 v2 v3 v4 v5 : Value) (w : World), (method (k + 1) 34 (.agg #[v1, v2, v3, v4, v5]) "Mul").run Try.prog w = .ok (10, .agg #[v1, v2, v3, v4, v5]) w := fun _ _ _ _ _ _ _ => by kernel_rfl
  have hmSub : ∀ (k : Nat) (v1 v2 v3 v4 v5 : Value) (w : World), (method (k + 1) 34 (.agg #[v1, v2, v3, v4, v5]) "Sub").run Try.prog w = .ok (47, .agg #[v1, v2, v3, v4, v5]) w := fun _ _ _ _ _ _ _ => by kernel_rfl
  go_enter Try.func28, Try.ntmps28
  go_wp2_with fail
  refine wp_loop_rounds 3 ?_
  rw [rounds_succ]
  have lV00 : _ < _ := V00.1
  obtain ⟨tV00_0, tV00_1, tV00_2, tV00_3, tV00_4⟩ := V00.2.1
  go_wp2_with fail
  refine wp_loop_rounds 1 ?_
  rw [rounds_succ]
  go_wp2_with fail
  refine (clear_to q00 A1 A2 A3 _ (by exact V00.2.2) (z00.mono (by decide)) (la14 H00.out)).mono ?_
  rintro e w1 ⟨rfl, hb1⟩
  clear lV00
  clear tV00_0 tV00_1 tV00_2 tV00_3 tV00_4
  replace c0 := keepc hb1 c0 hp
  replace c1 := keepc hb1 c1 hp
  replace hp := Nat.lt_of_lt_of_le hp hb1.size
  replace f5 := keepf hb1 f5 V11.1
  replace f6 := keepf hb1 f6 V11.1
  replace f7 := keepf hb1 f7 V11.1
  replace f8 := keepf hb1 f8 V11.1
  replace f9 := keepf hb1 f9 V11.1
  replace V00 := V00.to hb1
  replace V01 := V01.to hb1
  replace V10 := V10.to hb1
  replace V11 := V11.to hb1
  replace HW := Lib.hid (bstep HW HB0 hb1)
  clear hb1
  go_wp2_with fail
  refine wp_loop_rounds 2 ?_
  rw [rounds_succ]
  go_upto_region 16 with fail
  go_cut [8, 9] (fun v e wx => VarNum w1 (q10.div q00) v wx ∧ e = .int .i64 0)
  case first =>
    have lV00 : _ < _ := V00.1
    have lV10 : _ < _ := V10.1
    obtain ⟨tV00_0, tV00_1, tV00_2, tV00_3, tV00_4⟩ := V00.2.1
    obtain ⟨tV10_0, tV10_1, tV10_2, tV10_3, tV10_4⟩ := V10.2.1
    go_region_held3 (fun w' => w'.cell? ⟨p, 0, none⟩ = some (.slice (some ⟨r0, 0, none⟩) 2 a0) ∧ w'.cell? ⟨p, 1, none⟩ = some (.slice (some ⟨r1, 0, none⟩) 2 a1) ∧ w'.cell? ⟨r0, 0, none⟩ = some (.bool (sn (na q00))) ∧ w'.cell? ⟨r0, 1, none⟩ = some (.slice A1 (ln (ab (na q00))) (ln (ab (na q00)))) ∧ w'.cell? ⟨r0, 2, none⟩ = some (.bool (sn (nb q00))) ∧ w'.cell? ⟨r0, 3, none⟩ = some (.slice A2 (ln (ab (nb q00))) (ln (ab (nb q00)))) ∧ w'.cell? ⟨r0, 4, none⟩ = some (.slice A3 (ln (un q00)) (ln (un q00))) ∧ w'.cell? ⟨r1, 0, none⟩ = some (.bool (sn (na q10))) ∧ w'.cell? ⟨r1, 1, none⟩ = some (.slice C1 (ln (ab (na q10))) (ln (ab (na q10)))) ∧ w'.cell? ⟨r1, 2, none⟩ = some (.bool (sn (nb q10))) ∧ w'.cell? ⟨r1, 3, none⟩ = some (.slice C2 (ln (ab (nb q10))) (ln (ab (nb q10)))) ∧ w'.cell? ⟨r1, 4, none⟩ = some (.slice C3 (ln (un q10)) (ln (un q10)))) (first | with_reducible exact ⟨c0, c1, tV00_0, tV00_1, tV00_2, tV00_3, tV00_4, tV10_0, tV10_1, tV10_2, tV10_3, tV10_4⟩ | with_reducible exact ⟨(keepa c0 hp), (keepa c1 hp), (keepa tV00_0 lV00), (keepa tV00_1 lV00), (keepa tV00_2 lV00), (keepa tV00_3 lV00), (keepa tV00_4 lV00), (keepa tV10_0 lV10), (keepa tV10_1 lV10), (keepa tV10_2 lV10), (keepa tV10_3 lV10), (keepa tV10_4 lV10)⟩ | with_reducible exact ⟨(keepd c0), (keepd c1), (keepd tV00_0), (keepd tV00_1), (keepd tV00_2), (keepd tV00_3), (keepd tV00_4), (keepd tV10_0), (keepd tV10_1), (keepd tV10_2), (keepd tV10_3), (keepd tV10_4)⟩ | with_reducible exact ⟨(keepd (keepa c0 hp)), (keepd (keepa c1 hp)), (keepd (keepa tV00_0 lV00)), (keepd (keepa tV00_1 lV00)), (keepd (keepa tV00_2 lV00)), (keepd (keepa tV00_3 lV00)), (keepd (keepa tV00_4 lV00)), (keepd (keepa tV10_0 lV10)), (keepd (keepa tV10_1 lV10)), (keepd (keepa tV10_2 lV10)), (keepd (keepa tV10_3 lV10)), (keepd (keepa tV10_4 lV10))⟩ | (have _ := gx; with_reducible exact ⟨(keeps (keeps (keeps (keeps (keeps c0 gnp) gnp) gnp) gnp) gnp), (keeps (keeps (keeps (keeps (keeps c1 gnp) gnp) gnp) gnp) gnp), (keeps (keeps (keeps (keeps (keeps tV00_0 gn0) gn0) gn0) gn0) gn0), (keeps (keeps (keeps (keeps (keeps tV00_1 gn0) gn0) gn0) gn0) gn0), (keeps (keeps (keeps (keeps (keeps tV00_2 gn0) gn0) gn0) gn0) gn0), (keeps (keeps (keeps (keeps (keeps tV00_3 gn0) gn0) gn0) gn0) gn0), (keeps (keeps (keeps (keeps (keeps tV00_4 gn0) gn0) gn0) gn0) gn0), (keeps (keeps (keeps (keeps (keeps tV10_0 gn1) gn1) gn1) gn1) gn1), (keeps (keeps (keeps (keeps (keeps tV10_1 gn1) gn1) gn1) gn1) gn1), (keeps (keeps (keeps (keeps (keeps tV10_2 gn1) gn1) gn1) gn1) gn1), (keeps (keeps (keeps (keeps (keeps tV10_3 gn1) gn1) gn1) gn1) gn1), (keeps (keeps (keeps (keeps (keeps tV10_4 gn1) gn1) gn1) gn1) gn1)⟩)) (first
      | (go_at_call 40; go_loud (refine (div_num0 q10 q00 C1 C2 C3 A1 A2 A3 _ (by first | with_reducible exact V10.2.2 | with_reducible exact num3_alloc V10.2.2 | exact V10.2.2 | exact num3_alloc V10.2.2) (by first | with_reducible exact V00.2.2 | with_reducible exact num3_alloc V00.2.2 | exact V00.2.2 | exact num3_alloc V00.2.2) (z10.mono (by decide)) (z00.mono (by decide)) H00.out).mono ?_); rintro e w2 ⟨F1, F2, F3, rfl, hf, ha⟩; have hb2 : Below w1.heap.size w1 w2 := (by first | with_reducible exact ha | with_reducible exact undrew ha | with_reducible exact unalloc ha | with_reducible exact undrewalloc ha | with_reducible exact undrew (unalloc ha)); (try ((first | (with_reducible have gx := newvarN ha) | (with_reducible have gx := newvarN (undrew ha))); have gge := gx.1; have gnp := Nat.ne_of_lt (Nat.lt_of_lt_of_le hp gx.1); have gn0 := Nat.ne_of_lt (Nat.lt_of_lt_of_le V00.1 gx.1); have gn1 := Nat.ne_of_lt (Nat.lt_of_lt_of_le V10.1 gx.1))); have gB := Lib.hid hb2; clear lV00 lV10; clear tV00_0 tV00_1 tV00_2 tV00_3 tV00_4 tV10_0 tV10_1 tV10_2 tV10_3 tV10_4; replace c0 := keepc hb2 c0 hp; replace c1 := keepc hb2 c1 hp; replace hp := Nat.lt_of_lt_of_le hp hb2.size; replace f5 := keepf hb2 f5 V11.1; replace f6 := keepf hb2 f6 V11.1; replace f7 := keepf hb2 f7 V11.1; replace f8 := keepf hb2 f8 V11.1; replace f9 := keepf hb2 f9 V11.1; replace V00 := V00.to hb2; replace V01 := V01.to hb2; replace V10 := V10.to hb2; replace V11 := V11.to hb2; replace HW := Lib.hid (bstep HW HB0 hb2); clear hb2; have lV00 : _ < _ := V00.1; have lV10 : _ < _ := V10.1; obtain ⟨tV00_0, tV00_1, tV00_2, tV00_3, tV00_4⟩ := V00.2.1; obtain ⟨tV10_0, tV10_1, tV10_2, tV10_3, tV10_4⟩ := V10.2.1; clear ha; (try (have gy := gx; obtain ⟨_, _, ⟨ga0, ga1, ga2, ga3, ga4⟩, gf0, gf1, gf2, gf3, gf4⟩ := gy))))
    all_goals
      go_wp2_with fail
      go_meet
      refine ⟨?_, rfl⟩
      first | with_reducible exact varNum_set gB.out gx gge hf | with_reducible exact varNum_new gB.out hf
  case rest =>
    obtain ⟨⟨gf, F1, F2, F3, rfl, F5, hF3, hFg, hFl, hbF⟩, rfl⟩ := hcut
    have ngf : gf ≠ r1 := by have := V10.1; omega
    obtain ⟨w3, rfl⟩ : ∃ X : World, X = wc := ⟨_, rfl⟩
    have VF : VarAt w3 gf (q10.div q00) F1 F2 F3 := ⟨hFl, F5, hF3⟩
    replace c0 := keepc hbF c0 hp
    replace c1 := keepc hbF c1 hp
    replace hp := Nat.lt_of_lt_of_le hp hbF.size
    replace f5 := keepf hbF f5 V11.1
    replace f6 := keepf hbF f6 V11.1
    replace f7 := keepf hbF f7 V11.1
    replace f8 := keepf hbF f8 V11.1
    replace f9 := keepf hbF f9 V11.1
    replace V00 := V00.to hbF
    replace V01 := V01.to hbF
    replace V10 := V10.to hbF
    replace V11 := V11.to hbF
    replace HW := Lib.hid (bstep HW HB0 hbF)
    clear hbF
    clear F5 hF3 hFg hFl
    go_wp2_with fail
    refine wp_loop_rounds 2 ?_
    rw [rounds_succ]
    go_upto_block 7 with fail
    go_cut [] (fun wx => wx.cell? ⟨p, 0, none⟩ = some (.slice (some ⟨r0, 0, none⟩) 2 a0) ∧ wx.cell? ⟨p, 1, none⟩ = some (.slice (some ⟨r1, 0, none⟩) 2 a1) ∧ p < wx.heap.size ∧ VarAt wx r0 q00 A1 A2 A3 ∧ (∃ U1 U2 U3, At5 wx r1 (q11.sub ((q10.div q00).mul q01)) U1 U2 U3) ∧ Below B w wx)
    case first =>
      have lV01 : _ < _ := V01.1
      have lVF : _ < _ := VF.1
      obtain ⟨tV01_0, tV01_1, tV01_2, tV01_3, tV01_4⟩ := V01.2.1
      obtain ⟨tVF_0, tVF_1, tVF_2, tVF_3, tVF_4⟩ := VF.2.1
      go_wp2_with fail
      refine wp_region_held_drew (S := fun w' => w'.cell? ⟨p, 0, none⟩ = some (.slice (some ⟨r0, 0, none⟩) 2 a0) ∧ w'.cell? ⟨p, 1, none⟩ = some (.slice (some ⟨r1, 0, none⟩) 2 a1) ∧ w'.cell? ⟨r0, 5, none⟩ = some (.bool (sn (na q01))) ∧ w'.cell? ⟨r0, 6, none⟩ = some (.slice B1 (ln (ab (na q01))) (ln (ab (na q01)))) ∧ w'.cell? ⟨r0, 7, none⟩ = some (.bool (sn (nb q01))) ∧ w'.cell? ⟨r0, 8, none⟩ = some (.slice B2 (ln (ab (nb q01))) (ln (ab (nb q01)))) ∧ w'.cell? ⟨r0, 9, none⟩ = some (.slice B3 (ln (un q01)) (ln (un q01))) ∧ w'.cell? ⟨gf, 0, none⟩ = some (.bool (sn (na (q10.div q00)))) ∧ w'.cell? ⟨gf, 1, none⟩ = some (.slice F1 (ln (ab (na (q10.div q00)))) (ln (ab (na (q10.div q00))))) ∧ w'.cell? ⟨gf, 2, none⟩ = some (.bool (sn (nb (q10.div q00)))) ∧ w'.cell? ⟨gf, 3, none⟩ = some (.slice F2 (ln (ab (nb (q10.div q00)))) (ln (ab (nb (q10.div q00))))) ∧ w'.cell? ⟨gf, 4, none⟩ = some (.slice F3 (ln (un (q10.div q00))) (ln (un (q10.div q00))))) (by kernel_rfl) ?_ (fun hHeld => ?_)
      · exact ⟨c0, c1, tV01_0, tV01_1, tV01_2, tV01_3, tV01_4, tVF_0, tVF_1, tVF_2, tVF_3, tVF_4⟩
      refine takeH (i := 0) (d := 98) (v := ?v101) rfl rfl (by kernel_rfl) (by kernel_rfl) (by kernel_rfl) (fun _ _ _ h => h) (Or.inl ⟨by rfl, ?y101⟩) (by assumption) ?r101
      case y101 => (intro w hSw; (try dsimp only at hSw); go_simp; try with_reducible rfl)
      try simp only [Act.put, List.setIfInBounds_toArray, List.set_cons_zero, List.set_cons_succ]
      refine takeH (i := 1) (d := 99) (v := ?v102) rfl rfl (by kernel_rfl) (by kernel_rfl) (by kernel_rfl) (fun _ _ _ h => h) (Or.inl ⟨by rfl, ?y102⟩) (by assumption) ?r102
      case y102 => (intro w hSw; (try dsimp only at hSw); go_simp; try with_reducible rfl)
      try simp only [Act.put, List.setIfInBounds_toArray, List.set_cons_zero, List.set_cons_succ]
      refine takeH (i := 2) (d := 100) (v := ?v103) rfl rfl (by kernel_rfl) (by kernel_rfl) (by kernel_rfl) (fun _ _ _ h => h) (Or.inl ⟨by rfl, ?y103⟩) (by assumption) ?r103
      case y103 => (intro w hSw; (try dsimp only at hSw); go_simp; try with_reducible rfl)
      try simp only [Act.put, List.setIfInBounds_toArray, List.set_cons_zero, List.set_cons_succ]
      refine takeH (i := 3) (d := 101) (v := ?v104) rfl rfl (by kernel_rfl) (by kernel_rfl) (by kernel_rfl) (fun _ _ _ h => h) (Or.inl ⟨by rfl, ?y104⟩) (by assumption) ?r104
      case y104 => (intro w hSw; (try dsimp only at hSw); go_simp; try with_reducible rfl)
      try simp only [Act.put, List.setIfInBounds_toArray, List.set_cons_zero, List.set_cons_succ]
      refine takeH (i := 4) (d := 102) (v := ?v105) rfl rfl (by kernel_rfl) (by kernel_rfl) (by kernel_rfl) (fun _ _ _ h => h) (Or.inl ⟨by rfl, ?y105⟩) (by assumption) ?r105
      case y105 => (intro w hSw; (try dsimp only at hSw); go_simp; try with_reducible rfl)
      try simp only [Act.put, List.setIfInBounds_toArray, List.set_cons_zero, List.set_cons_succ]
      refine takeH (i := 5) (d := 103) (v := ?v106) rfl rfl (by kernel_rfl) (by kernel_rfl) (by kernel_rfl) (fun _ _ _ h => h) (Or.inl ⟨by rfl, ?y106⟩) (by assumption) ?r106
      case y106 => (intro w hSw; (try dsimp only at hSw); go_simp; try with_reducible rfl)
      try simp only [Act.put, List.setIfInBounds_toArray, List.set_cons_zero, List.set_cons_succ]
      refine takeH (i := 6) (d := 104) (v := ?v107) rfl rfl (by kernel_rfl) (by kernel_rfl) (by kernel_rfl) (fun _ _ _ h => h) (Or.inl ⟨by rfl, ?y107⟩) (by assumption) ?r107
      case y107 => (intro w hSw; (try dsimp only at hSw); go_simp; try with_reducible rfl)
      try simp only [Act.put, List.setIfInBounds_toArray, List.set_cons_zero, List.set_cons_succ]
      refine takeH (i := 7) (d := 105) (v := ?v108) rfl rfl (by kernel_rfl) (by kernel_rfl) (by kernel_rfl) (fun _ _ _ h => h) (Or.inl ⟨by rfl, ?y108⟩) (by assumption) ?r108
      case y108 => (intro w hSw; (try dsimp only at hSw); go_simp; try with_reducible rfl)
      try simp only [Act.put, List.setIfInBounds_toArray, List.set_cons_zero, List.set_cons_succ]
      refine takeH (i := 8) (d := 106) (v := ?v109) rfl rfl (by kernel_rfl) (by kernel_rfl) (by kernel_rfl) (fun _ _ _ h => h) (Or.inl ⟨by rfl, ?y109⟩) (by assumption) ?r109
      case y109 => (intro w hSw; (try dsimp only at hSw); go_simp; try with_reducible rfl)
      try simp only [Act.put, List.setIfInBounds_toArray, List.set_cons_zero, List.set_cons_succ]
      refine takeH (i := 9) (d := 107) (v := ?v110) rfl rfl (by kernel_rfl) (by kernel_rfl) (by kernel_rfl) (fun _ _ _ h => h) (Or.inl ⟨by rfl, ?y110⟩) (by assumption) ?r110
      case y110 => (intro w hSw; (try dsimp only at hSw); go_simp; try with_reducible rfl)
      try simp only [Act.put, List.setIfInBounds_toArray, List.set_cons_zero, List.set_cons_succ]
      refine takeH (i := 10) (d := 108) (v := ?v111) rfl rfl (by kernel_rfl) (by kernel_rfl) (by kernel_rfl) (fun _ _ _ h => h) (Or.inl ⟨by rfl, ?y111⟩) (by assumption) ?r111
      case y111 => (intro w hSw; (try dsimp only at hSw); go_simp; try with_reducible rfl)
      try simp only [Act.put, List.setIfInBounds_toArray, List.set_cons_zero, List.set_cons_succ]
      refine takeH (i := 13) (d := 111) (v := ?v112) rfl rfl (by kernel_rfl) (by kernel_rfl) (by kernel_rfl) (fun _ _ _ h => h) (Or.inl ⟨by rfl, ?y112⟩) (by assumption) ?r112
      case y112 => (intro w hSw; (try dsimp only at hSw); go_simp; try with_reducible rfl)
      try simp only [Act.put, List.setIfInBounds_toArray, List.set_cons_zero, List.set_cons_succ]
      refine takeH (i := 14) (d := 112) (v := ?v113) rfl rfl (by kernel_rfl) (by kernel_rfl) (by kernel_rfl) (fun _ _ _ h => h) (Or.inl ⟨by rfl, ?y113⟩) (by assumption) ?r113
      case y113 => (intro w hSw; (try dsimp only at hSw); go_simp; try with_reducible rfl)
      try simp only [Act.put, List.setIfInBounds_toArray, List.set_cons_zero, List.set_cons_succ]
      refine takeH (i := 15) (d := 113) (v := ?v114) rfl rfl (by kernel_rfl) (by kernel_rfl) (by kernel_rfl) (fun _ _ _ h => h) (Or.inl ⟨by rfl, ?y114⟩) (by assumption) ?r114
      case y114 => (intro w hSw; (try dsimp only at hSw); go_simp; try with_reducible rfl)
      try simp only [Act.put, List.setIfInBounds_toArray, List.set_cons_zero, List.set_cons_succ]
      refine takeH (i := 16) (d := 114) (v := ?v115) rfl rfl (by kernel_rfl) (by kernel_rfl) (by kernel_rfl) (fun _ _ _ h => h) (Or.inl ⟨by rfl, ?y115⟩) (by assumption) ?r115
      case y115 => (intro w hSw; (try dsimp only at hSw); go_simp; try with_reducible rfl)
      try simp only [Act.put, List.setIfInBounds_toArray, List.set_cons_zero, List.set_cons_succ]
      refine takeH (i := 17) (d := 115) (v := ?v116) rfl rfl (by kernel_rfl) (by kernel_rfl) (by kernel_rfl) (fun _ _ _ h => h) (Or.inl ⟨by rfl, ?y116⟩) (by assumption) ?r116
      case y116 => (intro w hSw; (try dsimp only at hSw); go_simp; try with_reducible rfl)
      try simp only [Act.put, List.setIfInBounds_toArray, List.set_cons_zero, List.set_cons_succ]
      refine takeH (i := 18) (d := 116) (v := ?v117) rfl rfl (by kernel_rfl) (by kernel_rfl) (by kernel_rfl) (fun _ _ _ h => h) (Or.inl ⟨by rfl, ?y117⟩) (by assumption) ?r117
      case y117 => (intro w hSw; (try dsimp only at hSw); go_simp; try with_reducible rfl)
      try simp only [Act.put, List.setIfInBounds_toArray, List.set_cons_zero, List.set_cons_succ]
      refine takeH (i := 19) (d := 117) (v := ?v118) rfl rfl (by kernel_rfl) (by kernel_rfl) (by kernel_rfl) (fun _ _ _ h => h) (Or.inl ⟨by rfl, ?y118⟩) (by assumption) ?r118
      case y118 => (intro w hSw; (try dsimp only at hSw); go_simp; try with_reducible rfl)
      try simp only [Act.put, List.setIfInBounds_toArray, List.set_cons_zero, List.set_cons_succ]
      refine takeH (i := 20) (d := 118) (v := ?v119) rfl rfl (by kernel_rfl) (by kernel_rfl) (by kernel_rfl) (fun _ _ _ h => h) (Or.inl ⟨by rfl, ?y119⟩) (by assumption) ?r119
      case y119 => (intro w hSw; (try dsimp only at hSw); go_simp; try with_reducible rfl)
      try simp only [Act.put, List.setIfInBounds_toArray, List.set_cons_zero, List.set_cons_succ]
      refine takeH (i := 21) (d := 119) (v := ?v120) rfl rfl (by kernel_rfl) (by kernel_rfl) (by kernel_rfl) (fun _ _ _ h => h) (Or.inl ⟨by rfl, ?y120⟩) (by assumption) ?r120
      case y120 => (intro w hSw; (try dsimp only at hSw); go_simp; try with_reducible rfl)
      try simp only [Act.put, List.setIfInBounds_toArray, List.set_cons_zero, List.set_cons_succ]
      clear lV01 lVF
      clear tV01_0 tV01_1 tV01_2 tV01_3 tV01_4 tVF_0 tVF_1 tVF_2 tVF_3 tVF_4
      have lV01 : _ < _ := V01.1
      have lVF : _ < _ := VF.1
      have lV11 : _ < _ := V11.1
      have lV10 : _ < _ := V10.1
      obtain ⟨tV01_0, tV01_1, tV01_2, tV01_3, tV01_4⟩ := V01.2.1
      obtain ⟨tVF_0, tVF_1, tVF_2, tVF_3, tVF_4⟩ := VF.2.1
      obtain ⟨tV11_0, tV11_1, tV11_2, tV11_3, tV11_4⟩ := V11.2.1
      obtain ⟨tV10_0, tV10_1, tV10_2, tV10_3, tV10_4⟩ := V10.2.1
      have zf : sz 10 (q10.div q00) := sz_div (by decide) z10 z00 H00.out
      refine wpAnyH_ready (rs := [11, 22]) (by kernel_rfl) (by simp) (AllReadyH.cons rfl (fun K hK => ?_) (AllReadyH.cons rfl (fun K hK => ?_) AllReadyH.nil))
      · go_simp
        refine hK.out _ _ ?_ (fun hHeld => ?_)
        · exact ⟨c0, c1, tV01_0, tV01_1, tV01_2, tV01_3, tV01_4, tVF_0, tVF_1, tVF_2, tVF_3, tVF_4⟩
        clear hK K
        try simp only [Act.put, List.setIfInBounds_toArray, List.set_cons_zero, List.set_cons_succ]
        refine takeH (i := 12) (d := 110) (v := ?v121) rfl rfl (by kernel_rfl) (by kernel_rfl) (by kernel_rfl) (fun _ _ _ h => h) (Or.inl ⟨by rfl, ?y121⟩) (by assumption) ?r121
        case y121 => (intro w hSw; (try dsimp only at hSw); go_simp; try with_reducible rfl)
        try simp only [Act.put, List.setIfInBounds_toArray, List.set_cons_zero, List.set_cons_succ]
        refine wpAnyH_ready (rs := [22]) (by kernel_rfl) (by simp) (AllReadyH.cons rfl (fun K hK => ?_) AllReadyH.nil)
        go_simp
        refine (mul_num (q10.div q00) q01 F1 F2 F3 B1 B2 B3 _ (by exact VF.2.2) (by exact V01.2.2) (zf.mono (by decide)) (z01.mono (by decide))).mono ?_
        rintro e w6 ⟨M1, M2, M3, rfl, hM, hb6⟩
        replace hb6 := undrew hb6
        clear lV01 lVF lV11 lV10
        clear tV01_0 tV01_1 tV01_2 tV01_3 tV01_4 tVF_0 tVF_1 tVF_2 tVF_3 tVF_4 tV11_0 tV11_1 tV11_2 tV11_3 tV11_4 tV10_0 tV10_1 tV10_2 tV10_3 tV10_4
        replace c0 := keepc hb6 c0 hp
        replace c1 := keepc hb6 c1 hp
        replace hp := Nat.lt_of_lt_of_le hp hb6.size
        replace f5 := keepf hb6 f5 V11.1
        replace f6 := keepf hb6 f6 V11.1
        replace f7 := keepf hb6 f7 V11.1
        replace f8 := keepf hb6 f8 V11.1
        replace f9 := keepf hb6 f9 V11.1
        replace V00 := V00.to hb6
        replace V01 := V01.to hb6
        replace V10 := V10.to hb6
        replace V11 := V11.to hb6
        replace VF := VF.to hb6
        replace HW := Lib.hid (bstep HW HB0 hb6)
        clear hb6
        have lV01 : _ < _ := V01.1
        have lVF : _ < _ := VF.1
        have lV11 : _ < _ := V11.1
        have lV10 : _ < _ := V10.1
        obtain ⟨tV01_0, tV01_1, tV01_2, tV01_3, tV01_4⟩ := V01.2.1
        obtain ⟨tVF_0, tVF_1, tVF_2, tVF_3, tVF_4⟩ := VF.2.1
        obtain ⟨tV11_0, tV11_1, tV11_2, tV11_3, tV11_4⟩ := V11.2.1
        obtain ⟨tV10_0, tV10_1, tV10_2, tV10_3, tV10_4⟩ := V10.2.1
        refine hK.out _ _ ?_ (fun hHeld => ?_)
        · exact ⟨c0, c1, tV01_0, tV01_1, tV01_2, tV01_3, tV01_4, tVF_0, tVF_1, tVF_2, tVF_3, tVF_4⟩
        clear hK K
        try simp only [Act.put, List.setIfInBounds_toArray, List.set_cons_zero, List.set_cons_succ]
        refine wpAnyH_ready (rs := [23]) (by kernel_rfl) (by simp) (AllReadyH.cons rfl (fun K hK => ?_) AllReadyH.nil)
        go_simp
        refine (sub_num q11 ((q10.div q00).mul q01) E1 E2 E3 M1 M2 M3 _ (by exact V11.2.2) (by exact hM) (z11.mono (by decide)) ((sz_mul (zf.mono (by decide : 10 ≤ 10)) (z01.mono (by decide : 2 ≤ 10))).mono (by decide))).mono ?_
        rintro e w7 ⟨U1, U2, U3, rfl, hU, hb7⟩
        clear lV01 lVF lV11 lV10
        clear tV01_0 tV01_1 tV01_2 tV01_3 tV01_4 tVF_0 tVF_1 tVF_2 tVF_3 tVF_4 tV11_0 tV11_1 tV11_2 tV11_3 tV11_4 tV10_0 tV10_1 tV10_2 tV10_3 tV10_4
        replace c0 := keepc hb7 c0 hp
        replace c1 := keepc hb7 c1 hp
        replace hp := Nat.lt_of_lt_of_le hp hb7.size
        replace f5 := keepf hb7 f5 V11.1
        replace f6 := keepf hb7 f6 V11.1
        replace f7 := keepf hb7 f7 V11.1
        replace f8 := keepf hb7 f8 V11.1
        replace f9 := keepf hb7 f9 V11.1
        replace V00 := V00.to hb7
        replace V01 := V01.to hb7
        replace V10 := V10.to hb7
        replace V11 := V11.to hb7
        replace VF := VF.to hb7
        replace HW := Lib.hid (bstep HW HB0 hb7)
        clear hb7
        have lV01 : _ < _ := V01.1
        have lVF : _ < _ := VF.1
        have lV11 : _ < _ := V11.1
        have lV10 : _ < _ := V10.1
        obtain ⟨tV01_0, tV01_1, tV01_2, tV01_3, tV01_4⟩ := V01.2.1
        obtain ⟨tVF_0, tVF_1, tVF_2, tVF_3, tVF_4⟩ := VF.2.1
        obtain ⟨tV11_0, tV11_1, tV11_2, tV11_3, tV11_4⟩ := V11.2.1
        obtain ⟨tV10_0, tV10_1, tV10_2, tV10_3, tV10_4⟩ := V10.2.1
        clear hM
        refine hK.out _ _ ?_ (fun hHeld => ?_)
        · exact ⟨c0, c1, tV01_0, tV01_1, tV01_2, tV01_3, tV01_4, tVF_0, tVF_1, tVF_2, tVF_3, tVF_4⟩
        clear hK K
        try simp only [Act.put, List.setIfInBounds_toArray, List.set_cons_zero, List.set_cons_succ]
        refine takeH (i := 24) (d := 122) (v := ?v122) rfl rfl (by kernel_rfl) (by kernel_rfl) (by kernel_rfl) (fun _ _ _ h => h) (Or.inl ⟨by rfl, ?y122⟩) (by assumption) ?r122
        case y122 => (intro w hSw; (try dsimp only at hSw); go_simp; try with_reducible rfl)
        try simp only [Act.put, List.setIfInBounds_toArray, List.set_cons_zero, List.set_cons_succ]
        refine wpAnyH_ready (rs := [25]) (by kernel_rfl) (by simp) (AllReadyH.cons rfl (fun K hK => ?_) AllReadyH.nil)
        go_simp
        obtain ⟨Y, hY⟩ : ∃ X : World, X = set55 w7 r1 (q11.sub ((q10.div q00).mul q01)) U1 U2 U3 := ⟨_, rfl⟩
        have hw : set55 w7 r1 (q11.sub ((q10.div q00).mul q01)) U1 U2 U3 = Y := hY.symm
        unfold set55 at hw
        rw [hw]
        clear hw
        replace c0 := set55_cell (q := (q11.sub ((q10.div q00).mul q01))) (A1 := U1) (A2 := U2) (A3 := U3) c0 (.inl np)
        rw [← hY] at c0
        replace c1 := set55_cell (q := (q11.sub ((q10.div q00).mul q01))) (A1 := U1) (A2 := U2) (A3 := U3) c1 (.inl np)
        rw [← hY] at c1
        have n01' : r0 ≠ r1 := n01
        replace tV01_0 := set55_cell (q := (q11.sub ((q10.div q00).mul q01))) (A1 := U1) (A2 := U2) (A3 := U3) tV01_0 (.inl n01)
        rw [← hY] at tV01_0
        replace tV01_1 := set55_cell (q := (q11.sub ((q10.div q00).mul q01))) (A1 := U1) (A2 := U2) (A3 := U3) tV01_1 (.inl n01)
        rw [← hY] at tV01_1
        replace tV01_2 := set55_cell (q := (q11.sub ((q10.div q00).mul q01))) (A1 := U1) (A2 := U2) (A3 := U3) tV01_2 (.inl n01)
        rw [← hY] at tV01_2
        replace tV01_3 := set55_cell (q := (q11.sub ((q10.div q00).mul q01))) (A1 := U1) (A2 := U2) (A3 := U3) tV01_3 (.inl n01)
        rw [← hY] at tV01_3
        replace tV01_4 := set55_cell (q := (q11.sub ((q10.div q00).mul q01))) (A1 := U1) (A2 := U2) (A3 := U3) tV01_4 (.inl n01)
        rw [← hY] at tV01_4
        replace tVF_0 := set55_cell (q := (q11.sub ((q10.div q00).mul q01))) (A1 := U1) (A2 := U2) (A3 := U3) tVF_0 (.inl ngf)
        rw [← hY] at tVF_0
        replace tVF_1 := set55_cell (q := (q11.sub ((q10.div q00).mul q01))) (A1 := U1) (A2 := U2) (A3 := U3) tVF_1 (.inl ngf)
        rw [← hY] at tVF_1
        replace tVF_2 := set55_cell (q := (q11.sub ((q10.div q00).mul q01))) (A1 := U1) (A2 := U2) (A3 := U3) tVF_2 (.inl ngf)
        rw [← hY] at tVF_2
        replace tVF_3 := set55_cell (q := (q11.sub ((q10.div q00).mul q01))) (A1 := U1) (A2 := U2) (A3 := U3) tVF_3 (.inl ngf)
        rw [← hY] at tVF_3
        replace tVF_4 := set55_cell (q := (q11.sub ((q10.div q00).mul q01))) (A1 := U1) (A2 := U2) (A3 := U3) tVF_4 (.inl ngf)
        rw [← hY] at tVF_4
        have G0 := set55_var (q := (q11.sub ((q10.div q00).mul q01))) (A1 := U1) (A2 := U2) (A3 := U3) V00 tV10_0
        rw [← hY] at G0
        have G1 := set55_at5 lV11 hU tV10_0 tV11_0 tV11_1 tV11_2 tV11_3 tV11_4
        rw [← hY] at G1
        have G2 : Below B w Y := by rw [hY]; exact set55_below HW.out HBr.out
        have G3 : p < Y.heap.size := by rw [hY, set55_size]; exact hp
        clear hY
        refine hK.out _ _ ?_ (fun hHeld => ?_)
        · exact ⟨c0, c1, tV01_0, tV01_1, tV01_2, tV01_3, tV01_4, tVF_0, tVF_1, tVF_2, tVF_3, tVF_4⟩
        clear hK K
        try simp only [Act.put, List.setIfInBounds_toArray, List.set_cons_zero, List.set_cons_succ]
        refine wpAnyH_done (by kernel_rfl) ?_ _
        go_wp2_with fail
        go_meet
        exact ⟨c0, c1, G3, G0, ⟨U1, U2, U3, G1⟩, G2⟩
      · go_simp
        refine (mul_num (q10.div q00) q01 F1 F2 F3 B1 B2 B3 _ (by exact VF.2.2) (by exact V01.2.2) (zf.mono (by decide)) (z01.mono (by decide))).mono ?_
        rintro e w6 ⟨M1, M2, M3, rfl, hM, hb6⟩
        replace hb6 := undrew hb6
        clear lV01 lVF lV11 lV10
        clear tV01_0 tV01_1 tV01_2 tV01_3 tV01_4 tVF_0 tVF_1 tVF_2 tVF_3 tVF_4 tV11_0 tV11_1 tV11_2 tV11_3 tV11_4 tV10_0 tV10_1 tV10_2 tV10_3 tV10_4
        replace c0 := keepc hb6 c0 hp
        replace c1 := keepc hb6 c1 hp
        replace hp := Nat.lt_of_lt_of_le hp hb6.size
        replace f5 := keepf hb6 f5 V11.1
        replace f6 := keepf hb6 f6 V11.1
        replace f7 := keepf hb6 f7 V11.1
        replace f8 := keepf hb6 f8 V11.1
        replace f9 := keepf hb6 f9 V11.1
        replace V00 := V00.to hb6
        replace V01 := V01.to hb6
        replace V10 := V10.to hb6
        replace V11 := V11.to hb6
        replace VF := VF.to hb6
        replace HW := Lib.hid (bstep HW HB0 hb6)
        clear hb6
        have lV01 : _ < _ := V01.1
        have lVF : _ < _ := VF.1
        have lV11 : _ < _ := V11.1
        have lV10 : _ < _ := V10.1
        obtain ⟨tV01_0, tV01_1, tV01_2, tV01_3, tV01_4⟩ := V01.2.1
        obtain ⟨tVF_0, tVF_1, tVF_2, tVF_3, tVF_4⟩ := VF.2.1
        obtain ⟨tV11_0, tV11_1, tV11_2, tV11_3, tV11_4⟩ := V11.2.1
        obtain ⟨tV10_0, tV10_1, tV10_2, tV10_3, tV10_4⟩ := V10.2.1
        refine hK.out _ _ ?_ (fun hHeld => ?_)
        · exact ⟨c0, c1, tV01_0, tV01_1, tV01_2, tV01_3, tV01_4, tVF_0, tVF_1, tVF_2, tVF_3, tVF_4⟩
        clear hK K
        try simp only [Act.put, List.setIfInBounds_toArray, List.set_cons_zero, List.set_cons_succ]
        refine wpAnyH_ready (rs := [11]) (by kernel_rfl) (by simp) (AllReadyH.cons rfl (fun K hK => ?_) AllReadyH.nil)
        go_simp
        refine hK.out _ _ ?_ (fun hHeld => ?_)
        · exact ⟨c0, c1, tV01_0, tV01_1, tV01_2, tV01_3, tV01_4, tVF_0, tVF_1, tVF_2, tVF_3, tVF_4⟩
        clear hK K
        try simp only [Act.put, List.setIfInBounds_toArray, List.set_cons_zero, List.set_cons_succ]
        refine takeH (i := 12) (d := 110) (v := ?v123) rfl rfl (by kernel_rfl) (by kernel_rfl) (by kernel_rfl) (fun _ _ _ h => h) (Or.inl ⟨by rfl, ?y123⟩) (by assumption) ?r123
        case y123 => (intro w hSw; (try dsimp only at hSw); go_simp; try with_reducible rfl)
        try simp only [Act.put, List.setIfInBounds_toArray, List.set_cons_zero, List.set_cons_succ]
        refine wpAnyH_ready (rs := [23]) (by kernel_rfl) (by simp) (AllReadyH.cons rfl (fun K hK => ?_) AllReadyH.nil)
        go_simp
        refine (sub_num q11 ((q10.div q00).mul q01) E1 E2 E3 M1 M2 M3 _ (by exact V11.2.2) (by exact hM) (z11.mono (by decide)) ((sz_mul (zf.mono (by decide : 10 ≤ 10)) (z01.mono (by decide : 2 ≤ 10))).mono (by decide))).mono ?_
        rintro e w7 ⟨U1, U2, U3, rfl, hU, hb7⟩
        clear lV01 lVF lV11 lV10
        clear tV01_0 tV01_1 tV01_2 tV01_3 tV01_4 tVF_0 tVF_1 tVF_2 tVF_3 tVF_4 tV11_0 tV11_1 tV11_2 tV11_3 tV11_4 tV10_0 tV10_1 tV10_2 tV10_3 tV10_4
        replace c0 := keepc hb7 c0 hp
        replace c1 := keepc hb7 c1 hp
        replace hp := Nat.lt_of_lt_of_le hp hb7.size
        replace f5 := keepf hb7 f5 V11.1
        replace f6 := keepf hb7 f6 V11.1
        replace f7 := keepf hb7 f7 V11.1
        replace f8 := keepf hb7 f8 V11.1
        replace f9 := keepf hb7 f9 V11.1
        replace V00 := V00.to hb7
        replace V01 := V01.to hb7
        replace V10 := V10.to hb7
        replace V11 := V11.to hb7
        replace VF := VF.to hb7
        replace HW := Lib.hid (bstep HW HB0 hb7)
        clear hb7
        have lV01 : _ < _ := V01.1
        have lVF : _ < _ := VF.1
        have lV11 : _ < _ := V11.1
        have lV10 : _ < _ := V10.1
        obtain ⟨tV01_0, tV01_1, tV01_2, tV01_3, tV01_4⟩ := V01.2.1
        obtain ⟨tVF_0, tVF_1, tVF_2, tVF_3, tVF_4⟩ := VF.2.1
        obtain ⟨tV11_0, tV11_1, tV11_2, tV11_3, tV11_4⟩ := V11.2.1
        obtain ⟨tV10_0, tV10_1, tV10_2, tV10_3, tV10_4⟩ := V10.2.1
        clear hM
        refine hK.out _ _ ?_ (fun hHeld => ?_)
        · exact ⟨c0, c1, tV01_0, tV01_1, tV01_2, tV01_3, tV01_4, tVF_0, tVF_1, tVF_2, tVF_3, tVF_4⟩
        clear hK K
        try simp only [Act.put, List.setIfInBounds_toArray, List.set_cons_zero, List.set_cons_succ]
        refine takeH (i := 24) (d := 122) (v := ?v124) rfl rfl (by kernel_rfl) (by kernel_rfl) (by kernel_rfl) (fun _ _ _ h => h) (Or.inl ⟨by rfl, ?y124⟩) (by assumption) ?r124
        case y124 => (intro w hSw; (try dsimp only at hSw); go_simp; try with_reducible rfl)
        try simp only [Act.put, List.setIfInBounds_toArray, List.set_cons_zero, List.set_cons_succ]
        refine wpAnyH_ready (rs := [25]) (by kernel_rfl) (by simp) (AllReadyH.cons rfl (fun K hK => ?_) AllReadyH.nil)
        go_simp
        obtain ⟨Y, hY⟩ : ∃ X : World, X = set55 w7 r1 (q11.sub ((q10.div q00).mul q01)) U1 U2 U3 := ⟨_, rfl⟩
        have hw : set55 w7 r1 (q11.sub ((q10.div q00).mul q01)) U1 U2 U3 = Y := hY.symm
        unfold set55 at hw
        rw [hw]
        clear hw
        replace c0 := set55_cell (q := (q11.sub ((q10.div q00).mul q01))) (A1 := U1) (A2 := U2) (A3 := U3) c0 (.inl np)
        rw [← hY] at c0
        replace c1 := set55_cell (q := (q11.sub ((q10.div q00).mul q01))) (A1 := U1) (A2 := U2) (A3 := U3) c1 (.inl np)
        rw [← hY] at c1
        have n01' : r0 ≠ r1 := n01
        replace tV01_0 := set55_cell (q := (q11.sub ((q10.div q00).mul q01))) (A1 := U1) (A2 := U2) (A3 := U3) tV01_0 (.inl n01)
        rw [← hY] at tV01_0
        replace tV01_1 := set55_cell (q := (q11.sub ((q10.div q00).mul q01))) (A1 := U1) (A2 := U2) (A3 := U3) tV01_1 (.inl n01)
        rw [← hY] at tV01_1
        replace tV01_2 := set55_cell (q := (q11.sub ((q10.div q00).mul q01))) (A1 := U1) (A2 := U2) (A3 := U3) tV01_2 (.inl n01)
        rw [← hY] at tV01_2
        replace tV01_3 := set55_cell (q := (q11.sub ((q10.div q00).mul q01))) (A1 := U1) (A2 := U2) (A3 := U3) tV01_3 (.inl n01)
        rw [← hY] at tV01_3
        replace tV01_4 := set55_cell (q := (q11.sub ((q10.div q00).mul q01))) (A1 := U1) (A2 := U2) (A3 := U3) tV01_4 (.inl n01)
        rw [← hY] at tV01_4
        replace tVF_0 := set55_cell (q := (q11.sub ((q10.div q00).mul q01))) (A1 := U1) (A2 := U2) (A3 := U3) tVF_0 (.inl ngf)
        rw [← hY] at tVF_0
        replace tVF_1 := set55_cell (q := (q11.sub ((q10.div q00).mul q01))) (A1 := U1) (A2 := U2) (A3 := U3) tVF_1 (.inl ngf)
        rw [← hY] at tVF_1
        replace tVF_2 := set55_cell (q := (q11.sub ((q10.div q00).mul q01))) (A1 := U1) (A2 := U2) (A3 := U3) tVF_2 (.inl ngf)
        rw [← hY] at tVF_2
        replace tVF_3 := set55_cell (q := (q11.sub ((q10.div q00).mul q01))) (A1 := U1) (A2 := U2) (A3 := U3) tVF_3 (.inl ngf)
        rw [← hY] at tVF_3
        replace tVF_4 := set55_cell (q := (q11.sub ((q10.div q00).mul q01))) (A1 := U1) (A2 := U2) (A3 := U3) tVF_4 (.inl ngf)
        rw [← hY] at tVF_4
        have G0 := set55_var (q := (q11.sub ((q10.div q00).mul q01))) (A1 := U1) (A2 := U2) (A3 := U3) V00 tV10_0
        rw [← hY] at G0
        have G1 := set55_at5 lV11 hU tV10_0 tV11_0 tV11_1 tV11_2 tV11_3 tV11_4
        rw [← hY] at G1
        have G2 : Below B w Y := by rw [hY]; exact set55_below HW.out HBr.out
        have G3 : p < Y.heap.size := by rw [hY, set55_size]; exact hp
        clear hY
        refine hK.out _ _ ?_ (fun hHeld => ?_)
        · exact ⟨c0, c1, tV01_0, tV01_1, tV01_2, tV01_3, tV01_4, tVF_0, tVF_1, tVF_2, tVF_3, tVF_4⟩
        clear hK K
        try simp only [Act.put, List.setIfInBounds_toArray, List.set_cons_zero, List.set_cons_succ]
        refine wpAnyH_done (by kernel_rfl) ?_ _
        go_wp2_with fail
        go_meet
        exact ⟨c0, c1, G3, G0, ⟨U1, U2, U3, G1⟩, G2⟩
    case rest =>
      clear V00 V01 V10 V11 VF HW c0 c1 hp f5 f6 f7 f8 f9
      obtain ⟨c0, c1, hp, V00, ⟨U1, U2, U3, V11⟩, hB⟩ := hcut
      have HW := Lib.hid hB
      clear hB
      obtain ⟨tV11_0, tV11_1, tV11_2, tV11_3, tV11_4⟩ := V11.2.1
      go_wp2_with fail
      rw [rounds_succ]
      go_wp2_with fail
      rw [rounds_succ]
      go_wp2_with fail
      rw [rounds_succ]
      go_wp2_with fail
      refine wp_loop_rounds 1 ?_
      rw [rounds_succ]
      go_wp2_with fail
      refine (clear_to (q11.sub ((q10.div q00).mul q01)) U1 U2 U3 _ (by exact V11.2.2) ((sz_sub (z11.mono (by decide : 2 ≤ 21)) (sz_mul (sz_div (by decide) z10 z00 H00.out) (z01.mono (by decide : 2 ≤ 10)))).mono (by decide)) (la14 H11.out)).mono ?_
      rintro e w8 ⟨rfl, hb8⟩
      clear tV11_0 tV11_1 tV11_2 tV11_3 tV11_4
      replace c0 := keepc hb8 c0 hp
      replace c1 := keepc hb8 c1 hp
      replace V00 := V00.to hb8
      replace V11 := V11.to hb8
      replace HW := Lib.hid (bstep HW HB0 hb8)
      clear hb8
      go_wp2_with fail
      refine wp_loop_rounds 1 ?_
      rw [rounds_succ]
      go_wp2_with fail
      rw [rounds_succ]
      go_wp2_with fail
      refine bodyPost_ret (v := .tuple #[.int .i64 0, .int .i64 (-1)]) (by simp [results, Try.results28, go_sem]) rfl ?_
      exact ⟨rfl, c0, c1, V00, ⟨U1, U2, U3, V11⟩, HW.out⟩
end Go.Proofs.Ytdpjknjlhchmcaa

namespace Go.Proofs.Ytdpjknjlhchmcaa
open Go.RowKit Pl
set_option linter.unusedVariables false
set_option linter.unusedSimpArgs false
/-- The cells of a row of two numbers. -/
def row2 (x y : Cx) (A1 A2 A3 B1 B2 B3 : Option Addr) : List Value := [.bool (sn (na x)), .slice A1 (ln (ab (na x))) (ln (ab (na x))), .bool (sn (nb x)), .slice A2 (ln (ab (nb x))) (ln (ab (nb x))), .slice A3 (ln (un x)) (ln (un x)), .bool (sn (na y)), .slice B1 (ln (ab (na y))) (ln (ab (na y))), .bool (sn (nb y)), .slice B2 (ln (ab (nb y))) (ln (ab (nb y))), .slice B3 (ln (un y)) (ln (un y))]
theorem row2_len (x y : Cx) (A1 A2 A3 B1 B2 B3 : Option Addr) : (row2 x y A1 A2 A3 B1 B2 B3).length = 2 * 5 := rfl
theorem row2_one (x y : Cx) (A1 A2 A3 B1 B2 B3 : Option Addr) : ∀ u ∈ row2 x y A1 A2 A3 B1 B2 B3, u.oneCell' = true := by
  intro u hu
  simp only [row2, List.mem_cons, List.not_mem_nil, or_false] at hu
  rcases hu with rfl | rfl | rfl | rfl | rfl | rfl | rfl | rfl | rfl | rfl <;> rfl
theorem row2_cells {w : World} {g : Nat} {x y : Cx} {A1 A2 A3 B1 B2 B3 : Option Addr} (h : VarAt w g x A1 A2 A3) (k : At5 w g y B1 B2 B3) : ∀ j u, (row2 x y A1 A2 A3 B1 B2 B3)[j]? = some u → w.cell? ⟨g, j, none⟩ = some u := by
  obtain ⟨_, ⟨c0, c1, c2, c3, c4⟩, _⟩ := h
  obtain ⟨_, ⟨d0, d1, d2, d3, d4⟩, _⟩ := k
  intro j u hj
  match j, hj with
  | 0, hj => injection hj with hj; rw [← hj]; exact c0
  | 1, hj => injection hj with hj; rw [← hj]; exact c1
  | 2, hj => injection hj with hj; rw [← hj]; exact c2
  | 3, hj => injection hj with hj; rw [← hj]; exact c3
  | 4, hj => injection hj with hj; rw [← hj]; exact c4
  | 5, hj => injection hj with hj; rw [← hj]; exact d0
  | 6, hj => injection hj with hj; rw [← hj]; exact d1
  | 7, hj => injection hj with hj; rw [← hj]; exact d2
  | 8, hj => injection hj with hj; rw [← hj]; exact d3
  | 9, hj => injection hj with hj; rw [← hj]; exact d4
  | j + 10, hj => simp [row2] at hj
theorem own_row2 {w : World} {b r a : Nat} {x y : Cx} {A1 A2 A3 B1 B2 B3 : Option Addr} (h : w.ownsRow b 34 5 (.slice (some ⟨r, 0, none⟩) 2 a) 2 (row2 x y A1 A2 A3 B1 B2 B3)) (hx : Num3 w A1 A2 A3 x) (hy : Num3 w B1 B2 B3 y) :
    VarAt w r x A1 A2 A3 ∧ At5 w r y B1 B2 B3 ∧ (∀ i, w.frozen? ⟨r, i, none⟩ = false) ∧ b ≤ r := by
  have hl := h.lt r rfl
  have hc : ∀ j u, (row2 x y A1 A2 A3 B1 B2 B3)[j]? = some u → w.cell? ⟨r, j, none⟩ = some u := fun j u hj => by
    have := h.cells (g := r) rfl j u hj
    rwa [show (⟨r, 0, none⟩ : Addr).add j = ⟨r, j, none⟩ by simp only [Addr.add]; split <;> simp_all] at this
  refine ⟨⟨hl.2, ⟨hc 0 _ rfl, hc 1 _ rfl, hc 2 _ rfl, hc 3 _ rfl, hc 4 _ rfl⟩, hx⟩, ⟨hl.2, ⟨hc 5 _ rfl, hc 6 _ rfl, hc 7 _ rfl, hc 8 _ rfl, hc 9 _ rfl⟩, hy⟩, fun i => ?_, hl.1⟩
  rcases h.2 with ⟨e, _⟩ | ⟨g, cap, cur, e, _, hg, _⟩
  · cases e
  · injection e with e; injection e with e; injection e with e
    subst e
    simp [World.frozen?, hg]
theorem keepcB {W w1 : World} {B : Nat} (hb : Below B W w1) {b i : Nat} {v : Value} (h : W.cell? ⟨b, i, none⟩ = some v) (hlt : b < B) : w1.cell? ⟨b, i, none⟩ = some v := (hb.cell (p := ⟨b, i, none⟩) hlt).trans h
theorem keepfB {W w1 : World} {B : Nat} (hb : Below B W w1) {b i : Nat} {v : Bool} (h : W.frozen? ⟨b, i, none⟩ = v) (hlt : b < B) : w1.frozen? ⟨b, i, none⟩ = v := (hb.frozen (p := ⟨b, i, none⟩) hlt).trans h
set_option maxRecDepth 100000 in
set_option maxHeartbeats 4000000 in
theorem det2 (w : World) (b g0 g1 k0 k1 c : Nat) (q00 q01 q10 q11 : Cx) (A1 A2 A3 B1 B2 B3 C1 C2 C3 E1 E2 E3 : Option Addr) (m0 : w.cell? ⟨b, 0, none⟩ = some (.slice (some ⟨g0, 0, none⟩) 2 k0)) (m1 : w.cell? ⟨b, 1, none⟩ = some (.slice (some ⟨g1, 0, none⟩) 2 k1)) (hb : b < w.heap.size) (V00 : VarAt w g0 q00 A1 A2 A3) (V01 : At5 w g0 q01 B1 B2 B3) (V10 : VarAt w g1 q10 C1 C2 C3) (V11 : At5 w g1 q11 E1 E2 E3) (z00 : sz 2 q00) (z01 : sz 2 q01) (z10 : sz 2 q10) (z11 : sz 2 q11) (h00 : q00 ≠ Cx.zero) (h11 : (q11.sub ((q10.div q00).mul q01)) ≠ Cx.zero) :
    Calls Try.prog 9 #[.slice (some ⟨b, 0, none⟩) 2 c] w (RetNumE w 0 (q00.mul (q11.sub ((q10.div q00).mul q01)))) := by
  have H00 := Lib.hid h00
  have H11 := Lib.hid h11
  clear h00 h11
  go_enter Try.func9, Try.ntmps9
  go_wp2_with fail
  obtain ⟨W, hW⟩ : ∃ W : World, W = ((w.alloc (.cells #[.bool false, .slice none 0 0, .bool false, .slice none 0 0, .slice none 0 0] 34)).alloc (.cells #[.bool false, .slice none 0 0, .bool false, .slice none 0 0, .slice none 0 0] 34)) := ⟨_, rfl⟩
  have s0_0 : W.cell? ⟨w.heap.size, 0, none⟩ = some (.bool false) := by subst hW; go_simp
  have g0_0 : W.frozen? ⟨w.heap.size, 0, none⟩ = false := by subst hW; go_simp
  have s0_1 : W.cell? ⟨w.heap.size, 1, none⟩ = some (.slice none 0 0) := by subst hW; go_simp
  have g0_1 : W.frozen? ⟨w.heap.size, 1, none⟩ = false := by subst hW; go_simp
  have s0_2 : W.cell? ⟨w.heap.size, 2, none⟩ = some (.bool false) := by subst hW; go_simp
  have g0_2 : W.frozen? ⟨w.heap.size, 2, none⟩ = false := by subst hW; go_simp
  have s0_3 : W.cell? ⟨w.heap.size, 3, none⟩ = some (.slice none 0 0) := by subst hW; go_simp
  have g0_3 : W.frozen? ⟨w.heap.size, 3, none⟩ = false := by subst hW; go_simp
  have s0_4 : W.cell? ⟨w.heap.size, 4, none⟩ = some (.slice none 0 0) := by subst hW; go_simp
  have g0_4 : W.frozen? ⟨w.heap.size, 4, none⟩ = false := by subst hW; go_simp
  have r0 : W.cell? ⟨w.heap.size + 1, 0, none⟩ = some (.bool false) := by subst hW; go_simp
  have f0 : W.frozen? ⟨w.heap.size + 1, 0, none⟩ = false := by subst hW; go_simp
  have r1 : W.cell? ⟨w.heap.size + 1, 1, none⟩ = some (.slice none 0 0) := by subst hW; go_simp
  have f1 : W.frozen? ⟨w.heap.size + 1, 1, none⟩ = false := by subst hW; go_simp
  have r2 : W.cell? ⟨w.heap.size + 1, 2, none⟩ = some (.bool false) := by subst hW; go_simp
  have f2 : W.frozen? ⟨w.heap.size + 1, 2, none⟩ = false := by subst hW; go_simp
  have r3 : W.cell? ⟨w.heap.size + 1, 3, none⟩ = some (.slice none 0 0) := by subst hW; go_simp
  have f3 : W.frozen? ⟨w.heap.size + 1, 3, none⟩ = false := by subst hW; go_simp
  have r4 : W.cell? ⟨w.heap.size + 1, 4, none⟩ = some (.slice none 0 0) := by subst hW; go_simp
  have f4 : W.frozen? ⟨w.heap.size + 1, 4, none⟩ = false := by subst hW; go_simp
  have HW : Below w.heap.size w W := by subst hW; exact (((Below.refl w.heap.size w).alloc (Nat.le_refl _) _).alloc (by simp) _)
  have l0 : w.heap.size < W.heap.size := by subst hW; simp <;> omega
  have l1 : w.heap.size + 1 < W.heap.size := by subst hW; simp
  have n0 : w.heap.size ≠ w.heap.size + 1 := by omega
  replace V00 := V00.to HW
  replace V01 := V01.to HW
  replace V10 := V10.to HW
  replace V11 := V11.to HW
  rw [← hW]
  clear hW
  replace HW := Lib.hid HW
  replace m0 := keepc HW.out m0 hb
  replace m1 := keepc HW.out m1 hb
  have l50 : b < W.heap.size := Nat.lt_of_lt_of_le hb HW.out.size
  refine (square2 _ b g0 g1 k0 k1 c (by exact m0) (by exact m1) l50).mono ?_
  rintro e w1 ⟨rfl, hb1⟩
  replace s0_0 := keepc hb1 s0_0 l0
  replace g0_0 := keepf hb1 g0_0 l0
  replace s0_1 := keepc hb1 s0_1 l0
  replace g0_1 := keepf hb1 g0_1 l0
  replace s0_2 := keepc hb1 s0_2 l0
  replace g0_2 := keepf hb1 g0_2 l0
  replace s0_3 := keepc hb1 s0_3 l0
  replace g0_3 := keepf hb1 g0_3 l0
  replace s0_4 := keepc hb1 s0_4 l0
  replace g0_4 := keepf hb1 g0_4 l0
  replace m0 := keepc hb1 m0 l50
  replace m1 := keepc hb1 m1 l50
  replace r0 := keepc hb1 r0 l1
  replace f0 := keepf hb1 f0 l1
  replace r1 := keepc hb1 r1 l1
  replace f1 := keepf hb1 f1 l1
  replace r2 := keepc hb1 r2 l1
  replace f2 := keepf hb1 f2 l1
  replace r3 := keepc hb1 r3 l1
  replace f3 := keepf hb1 f3 l1
  replace r4 := keepc hb1 r4 l1
  replace f4 := keepf hb1 f4 l1
  replace l0 := Nat.lt_of_lt_of_le l0 hb1.size
  replace l1 := Nat.lt_of_lt_of_le l1 hb1.size
  replace l50 := Nat.lt_of_lt_of_le l50 hb1.size
  replace V00 := V00.to hb1
  replace V01 := V01.to hb1
  replace V10 := V10.to hb1
  replace V11 := V11.to hb1
  replace HW := Lib.hid (hstep HW hb1)
  clear hb1
  go_wp2_with fail
  have z0 := l0
  have z1 := l1
  have y00 := V00.2.2
  have y01 := V01.2.2
  have y10 := V10.2.2
  have y11 := V11.2.2
  refine (copied2 _ b g0 g1 k0 k1 c (row2 q00 q01 A1 A2 A3 B1 B2 B3) (row2 q10 q11 C1 C2 C3 E1 E2 E3) (by exact m0) (by exact m1) l50 (row2_len ..) (row2_len ..) (row2_cells V00 V01) (row2_cells V10 V11) (row2_one _ _ _ _ _ _ _ _) (row2_one _ _ _ _ _ _ _ _) V00.1 V10.1).mono ?_
  rintro e w2 ⟨p, t0, t1, a0, a1, rfl, d0, d1, o0, o1, ne, hpw, hpl, fp0, fp1, hb2⟩
  have nsz := hb2.size
  replace s0_0 := keepc hb2 s0_0 l0
  replace g0_0 := keepf hb2 g0_0 l0
  replace s0_1 := keepc hb2 s0_1 l0
  replace g0_1 := keepf hb2 g0_1 l0
  replace s0_2 := keepc hb2 s0_2 l0
  replace g0_2 := keepf hb2 g0_2 l0
  replace s0_3 := keepc hb2 s0_3 l0
  replace g0_3 := keepf hb2 g0_3 l0
  replace s0_4 := keepc hb2 s0_4 l0
  replace g0_4 := keepf hb2 g0_4 l0
  replace m0 := keepc hb2 m0 l50
  replace m1 := keepc hb2 m1 l50
  replace r0 := keepc hb2 r0 l1
  replace f0 := keepf hb2 f0 l1
  replace r1 := keepc hb2 r1 l1
  replace f1 := keepf hb2 f1 l1
  replace r2 := keepc hb2 r2 l1
  replace f2 := keepf hb2 f2 l1
  replace r3 := keepc hb2 r3 l1
  replace f3 := keepf hb2 f3 l1
  replace r4 := keepc hb2 r4 l1
  replace f4 := keepf hb2 f4 l1
  replace l0 := Nat.lt_of_lt_of_le l0 hb2.size
  replace l1 := Nat.lt_of_lt_of_le l1 hb2.size
  replace l50 := Nat.lt_of_lt_of_le l50 hb2.size
  replace V00 := V00.to hb2
  replace V01 := V01.to hb2
  replace V10 := V10.to hb2
  replace V11 := V11.to hb2
  replace y00 := y00.to hb2
  replace y01 := y01.to hb2
  replace y10 := y10.to hb2
  replace y11 := y11.to hb2
  replace HW := Lib.hid (hstep HW hb2)
  clear hb2
  go_wp2_with fail
  obtain ⟨VV00, VV01, _, _⟩ := own_row2 o0 y00 y01
  obtain ⟨VV10, VV11, fr1, hpt⟩ := own_row2 o1 y10 y11
  have HX : Hid (w1.heap.size ≤ t1 ∧ p ≠ t1 ∧ w.heap.size ≤ w1.heap.size) := Lib.hid (by omega)
  refine (elim2 _ w1.heap.size p t0 t1 a0 a1 q00 q01 q10 q11 A1 A2 A3 B1 B2 B3 C1 C2 C3 E1 E2 E3 d0 d1 VV00 VV01 VV10 VV11 (fr1 5) (fr1 6) (fr1 7) (fr1 8) (fr1 9) hpl nsz HX.out.1 ne HX.out.2.1 z00 z01 z10 z11 H00.out H11.out).mono ?_
  rintro e w3 ⟨rfl, c0, c1, W00, ⟨U1, U2, U3, W11⟩, hbB⟩
  replace s0_0 := keepcB hbB s0_0 z0
  replace g0_0 := keepfB hbB g0_0 z0
  replace r0 := keepcB hbB r0 z1
  replace f0 := keepfB hbB f0 z1
  replace s0_1 := keepcB hbB s0_1 z0
  replace g0_1 := keepfB hbB g0_1 z0
  replace r1 := keepcB hbB r1 z1
  replace f1 := keepfB hbB f1 z1
  replace s0_2 := keepcB hbB s0_2 z0
  replace g0_2 := keepfB hbB g0_2 z0
  replace r2 := keepcB hbB r2 z1
  replace f2 := keepfB hbB f2 z1
  replace s0_3 := keepcB hbB s0_3 z0
  replace g0_3 := keepfB hbB g0_3 z0
  replace r3 := keepcB hbB r3 z1
  replace f3 := keepfB hbB f3 z1
  replace s0_4 := keepcB hbB s0_4 z0
  replace g0_4 := keepfB hbB g0_4 z0
  replace r4 := keepcB hbB r4 z1
  replace f4 := keepfB hbB f4 z1
  replace HW := Lib.hid (HW.out.trans (hbB.mono HX.out.2.2))
  replace l0 := Nat.lt_of_lt_of_le l0 hbB.size
  replace l1 := Nat.lt_of_lt_of_le l1 hbB.size
  replace hpl := Nat.lt_of_lt_of_le hpl hbB.size
  clear m0 m1 l50 V00 V01 V10 V11 y00 y01 y10 y11 d0 d1 o0 o1 VV00 VV01 VV10 VV11 fr1 hpt fp0 fp1 ne nsz hbB z0 z1 HX hpw
  go_upto_region 6 with fail
  obtain ⟨X1, hX1⟩ : ∃ X : World, X = w3.alloc (.cells #[.int .i64 (-1)] 3) := ⟨_, rfl⟩
  rw [← hX1]
  have b3 : Below w3.heap.size w3 X1 := by rw [hX1]; exact (Below.refl _ _).alloc (Nat.le_refl _) _
  have sp : X1.cell? ⟨w3.heap.size, 0, none⟩ = some (.int .i64 (-1)) := by subst hX1; go_simp
  clear hX1
  replace s0_0 := keepc b3 s0_0 l0
  replace g0_0 := keepf b3 g0_0 l0
  replace r0 := keepc b3 r0 l1
  replace f0 := keepf b3 f0 l1
  replace s0_1 := keepc b3 s0_1 l0
  replace g0_1 := keepf b3 g0_1 l0
  replace r1 := keepc b3 r1 l1
  replace f1 := keepf b3 f1 l1
  replace s0_2 := keepc b3 s0_2 l0
  replace g0_2 := keepf b3 g0_2 l0
  replace r2 := keepc b3 r2 l1
  replace f2 := keepf b3 f2 l1
  replace s0_3 := keepc b3 s0_3 l0
  replace g0_3 := keepf b3 g0_3 l0
  replace r3 := keepc b3 r3 l1
  replace f3 := keepf b3 f3 l1
  replace s0_4 := keepc b3 s0_4 l0
  replace g0_4 := keepf b3 g0_4 l0
  replace r4 := keepc b3 r4 l1
  replace f4 := keepf b3 f4 l1
  replace c0 := keepc b3 c0 hpl
  replace c1 := keepc b3 c1 hpl
  replace W11 := W11.to b3
  replace l0 := Nat.lt_of_lt_of_le l0 b3.size
  replace l1 := Nat.lt_of_lt_of_le l1 b3.size
  replace hpl := Nat.lt_of_lt_of_le hpl b3.size
  replace W00 := W00.to b3
  replace HW := Lib.hid (hstep HW b3)
  clear b3
  generalize w3.heap.size = gs at *
  obtain ⟨tA0, tA1, tA2, tA3, tA4⟩ := W00.2.1
  go_wp2_with fail
  obtain ⟨X, hX⟩ : ∃ X : World, X = X1.alloc (.cells #[.bool (sn (na q00)), .slice A1 (ln (ab (na q00))) (ln (ab (na q00))), .bool (sn (nb q00)), .slice A2 (ln (ab (nb q00))) (ln (ab (nb q00))), .slice A3 (ln (un q00)) (ln (un q00))] 34) := ⟨_, rfl⟩
  rw [← hX]
  have b4 : Below X1.heap.size X1 X := by rw [hX]; exact (Below.refl _ _).alloc (Nat.le_refl _) _
  have e0 : X.frozen? ⟨X1.heap.size, 0, none⟩ = false := by subst hX; go_simp
  have e1 : X.frozen? ⟨X1.heap.size, 1, none⟩ = false := by subst hX; go_simp
  have e2 : X.frozen? ⟨X1.heap.size, 2, none⟩ = false := by subst hX; go_simp
  have e3 : X.frozen? ⟨X1.heap.size, 3, none⟩ = false := by subst hX; go_simp
  have e4 : X.frozen? ⟨X1.heap.size, 4, none⟩ = false := by subst hX; go_simp
  have VD : VarAt X X1.heap.size q00 A1 A2 A3 := ⟨by rw [hX]; simp, ⟨by subst hX; go_simp, by subst hX; go_simp, by subst hX; go_simp, by subst hX; go_simp, by subst hX; go_simp⟩, W00.2.2.to b4⟩
  clear tA0 tA1 tA2 tA3 tA4 hX sp
  have hd : Hid (w.heap.size < X1.heap.size ∧ w.heap.size + 1 < X1.heap.size ∧ p < X1.heap.size ∧ t1 < X1.heap.size) := Lib.hid (by have := W11.1; omega)
  replace s0_0 := keepc b4 s0_0 l0
  replace g0_0 := keepf b4 g0_0 l0
  replace r0 := keepc b4 r0 l1
  replace f0 := keepf b4 f0 l1
  replace s0_1 := keepc b4 s0_1 l0
  replace g0_1 := keepf b4 g0_1 l0
  replace r1 := keepc b4 r1 l1
  replace f1 := keepf b4 f1 l1
  replace s0_2 := keepc b4 s0_2 l0
  replace g0_2 := keepf b4 g0_2 l0
  replace r2 := keepc b4 r2 l1
  replace f2 := keepf b4 f2 l1
  replace s0_3 := keepc b4 s0_3 l0
  replace g0_3 := keepf b4 g0_3 l0
  replace r3 := keepc b4 r3 l1
  replace f3 := keepf b4 f3 l1
  replace s0_4 := keepc b4 s0_4 l0
  replace g0_4 := keepf b4 g0_4 l0
  replace r4 := keepc b4 r4 l1
  replace f4 := keepf b4 f4 l1
  replace c0 := keepc b4 c0 hpl
  replace c1 := keepc b4 c1 hpl
  replace W11 := W11.to b4
  replace l0 := Nat.lt_of_lt_of_le l0 b4.size
  replace l1 := Nat.lt_of_lt_of_le l1 b4.size
  replace hpl := Nat.lt_of_lt_of_le hpl b4.size
  replace HW := Lib.hid (hstep HW b4)
  clear b4 W00
  generalize X1.heap.size = gd at *
  have np0 : p ≠ gd := by have := hd.out; omega
  have np1 : t1 ≠ gd := by have := hd.out; omega
  have np2 : w.heap.size ≠ gd := by have := hd.out; omega
  have np3 : w.heap.size + 1 ≠ gd := by have := hd.out; omega
  have np4 : w.heap.size ≤ gd := by have := hd.out; omega
  clear hd
  have zU : sz 61 (q11.sub ((q10.div q00).mul q01)) := sz_sub (z11.mono (by decide : 2 ≤ 30)) ((sz_mul (sz_div (by decide) z10 z00 H00.out) (z01.mono (by decide : 2 ≤ 10))).mono (by decide : 21 ≤ 30))
  have hmMul : ∀ (k : Nat) (v1 v2 v3 v4 v5 : Value) (w : World), (method (k + 1) 34 (.agg #[v1, v2, v3, v4, v5]) "Mul").run Try.prog w = .ok (10, .agg #[v1, v2, v3, v4, v5]) w := fun _ _ _ _ _ _ _ => by kernel_rfl
  refine wp_loop_rounds 2 ?_
  rw [rounds_succ]
  obtain ⟨tB0, tB1, tB2, tB3, tB4⟩ := W11.2.1
  obtain ⟨tD0, tD1, tD2, tD3, tD4⟩ := VD.2.1
  go_wp2_with fail
  refine wp_region_held_drew (S := fun w' => w'.cell? ⟨p, 0, none⟩ = some (.slice (some ⟨t0, 0, none⟩) 2 a0) ∧ w'.cell? ⟨p, 1, none⟩ = some (.slice (some ⟨t1, 0, none⟩) 2 a1) ∧ w'.cell? ⟨t1, 5, none⟩ = some (.bool (sn (na (q11.sub ((q10.div q00).mul q01))))) ∧ w'.cell? ⟨t1, 6, none⟩ = some (.slice U1 (ln (ab (na (q11.sub ((q10.div q00).mul q01))))) (ln (ab (na (q11.sub ((q10.div q00).mul q01)))))) ∧ w'.cell? ⟨t1, 7, none⟩ = some (.bool (sn (nb (q11.sub ((q10.div q00).mul q01))))) ∧ w'.cell? ⟨t1, 8, none⟩ = some (.slice U2 (ln (ab (nb (q11.sub ((q10.div q00).mul q01))))) (ln (ab (nb (q11.sub ((q10.div q00).mul q01)))))) ∧ w'.cell? ⟨t1, 9, none⟩ = some (.slice U3 (ln (un (q11.sub ((q10.div q00).mul q01)))) (ln (un (q11.sub ((q10.div q00).mul q01)))))) (by kernel_rfl) ?_ (fun hHeld => ?_)
  · exact ⟨c0, c1, tB0, tB1, tB2, tB3, tB4⟩
  refine takeH (i := 2) (d := 52) (v := ?v201) rfl rfl (by kernel_rfl) (by kernel_rfl) (by kernel_rfl) (fun _ _ _ h => h) (Or.inl ⟨by rfl, ?y201⟩) (by assumption) ?r201
  case y201 => (intro w hSw; (try dsimp only at hSw); go_simp; try with_reducible rfl)
  try simp only [Act.put, List.setIfInBounds_toArray, List.set_cons_zero, List.set_cons_succ]
  refine takeH (i := 3) (d := 53) (v := ?v202) rfl rfl (by kernel_rfl) (by kernel_rfl) (by kernel_rfl) (fun _ _ _ h => h) (Or.inl ⟨by rfl, ?y202⟩) (by assumption) ?r202
  case y202 => (intro w hSw; (try dsimp only at hSw); go_simp; try with_reducible rfl)
  try simp only [Act.put, List.setIfInBounds_toArray, List.set_cons_zero, List.set_cons_succ]
  refine takeH (i := 4) (d := 54) (v := ?v203) rfl rfl (by kernel_rfl) (by kernel_rfl) (by kernel_rfl) (fun _ _ _ h => h) (Or.inl ⟨by rfl, ?y203⟩) (by assumption) ?r203
  case y203 => (intro w hSw; (try dsimp only at hSw); go_simp; try with_reducible rfl)
  try simp only [Act.put, List.setIfInBounds_toArray, List.set_cons_zero, List.set_cons_succ]
  refine takeH (i := 5) (d := 55) (v := ?v204) rfl rfl (by kernel_rfl) (by kernel_rfl) (by kernel_rfl) (fun _ _ _ h => h) (Or.inl ⟨by rfl, ?y204⟩) (by assumption) ?r204
  case y204 => (intro w hSw; (try dsimp only at hSw); go_simp; try with_reducible rfl)
  try simp only [Act.put, List.setIfInBounds_toArray, List.set_cons_zero, List.set_cons_succ]
  refine takeH (i := 6) (d := 56) (v := ?v205) rfl rfl (by kernel_rfl) (by kernel_rfl) (by kernel_rfl) (fun _ _ _ h => h) (Or.inl ⟨by rfl, ?y205⟩) (by assumption) ?r205
  case y205 => (intro w hSw; (try dsimp only at hSw); go_simp; try with_reducible rfl)
  try simp only [Act.put, List.setIfInBounds_toArray, List.set_cons_zero, List.set_cons_succ]
  refine takeH (i := 7) (d := 57) (v := ?v206) rfl rfl (by kernel_rfl) (by kernel_rfl) (by kernel_rfl) (fun _ _ _ h => h) (Or.inl ⟨by rfl, ?y206⟩) (by assumption) ?r206
  case y206 => (intro w hSw; (try dsimp only at hSw); go_simp; try with_reducible rfl)
  try simp only [Act.put, List.setIfInBounds_toArray, List.set_cons_zero, List.set_cons_succ]
  refine takeH (i := 8) (d := 58) (v := ?v207) rfl rfl (by kernel_rfl) (by kernel_rfl) (by kernel_rfl) (fun _ _ _ h => h) (Or.inl ⟨by rfl, ?y207⟩) (by assumption) ?r207
  case y207 => (intro w hSw; (try dsimp only at hSw); go_simp; try with_reducible rfl)
  try simp only [Act.put, List.setIfInBounds_toArray, List.set_cons_zero, List.set_cons_succ]
  refine wpAnyH_ready (rs := [0]) (by kernel_rfl) (by simp) (AllReadyH.cons rfl (fun K hK => ?_) AllReadyH.nil)
  go_simp
  refine hK.out _ _ ?_ (fun hHeld => ?_)
  · exact ⟨c0, c1, tB0, tB1, tB2, tB3, tB4⟩
  clear hK K
  try simp only [Act.put, List.setIfInBounds_toArray, List.set_cons_zero, List.set_cons_succ]
  refine takeH (i := 1) (d := 51) (v := ?v208) rfl rfl (by kernel_rfl) (by kernel_rfl) (by kernel_rfl) (fun _ _ _ h => h) (Or.inl ⟨by rfl, ?y208⟩) (by assumption) ?r208
  case y208 => (intro w hSw; (try dsimp only at hSw); go_simp; try with_reducible rfl)
  try simp only [Act.put, List.setIfInBounds_toArray, List.set_cons_zero, List.set_cons_succ]
  refine wpAnyH_ready (rs := [9]) (by kernel_rfl) (by simp) (AllReadyH.cons rfl (fun K hK => ?_) AllReadyH.nil)
  go_simp
  refine (mul_num q00 (q11.sub ((q10.div q00).mul q01)) A1 A2 A3 U1 U2 U3 _ (by exact VD.2.2) (by exact W11.2.2) (z00.mono (by decide)) (zU.mono (by decide))).mono ?_
  rintro e w5 ⟨M1, M2, M3, rfl, hM, hb5⟩
  replace hb5 := undrew hb5
  clear tB0 tB1 tB2 tB3 tB4 tD0 tD1 tD2 tD3 tD4
  replace s0_0 := keepc hb5 s0_0 l0
  replace g0_0 := keepf hb5 g0_0 l0
  replace r0 := keepc hb5 r0 l1
  replace f0 := keepf hb5 f0 l1
  replace s0_1 := keepc hb5 s0_1 l0
  replace g0_1 := keepf hb5 g0_1 l0
  replace r1 := keepc hb5 r1 l1
  replace f1 := keepf hb5 f1 l1
  replace s0_2 := keepc hb5 s0_2 l0
  replace g0_2 := keepf hb5 g0_2 l0
  replace r2 := keepc hb5 r2 l1
  replace f2 := keepf hb5 f2 l1
  replace s0_3 := keepc hb5 s0_3 l0
  replace g0_3 := keepf hb5 g0_3 l0
  replace r3 := keepc hb5 r3 l1
  replace f3 := keepf hb5 f3 l1
  replace s0_4 := keepc hb5 s0_4 l0
  replace g0_4 := keepf hb5 g0_4 l0
  replace r4 := keepc hb5 r4 l1
  replace f4 := keepf hb5 f4 l1
  replace c0 := keepc hb5 c0 hpl
  replace c1 := keepc hb5 c1 hpl
  replace W11 := W11.to hb5
  replace l0 := Nat.lt_of_lt_of_le l0 hb5.size
  replace l1 := Nat.lt_of_lt_of_le l1 hb5.size
  replace hpl := Nat.lt_of_lt_of_le hpl hb5.size
  replace e0 := keepf hb5 e0 VD.1
  replace e1 := keepf hb5 e1 VD.1
  replace e2 := keepf hb5 e2 VD.1
  replace e3 := keepf hb5 e3 VD.1
  replace e4 := keepf hb5 e4 VD.1
  replace VD := VD.to hb5
  replace HW := Lib.hid (hstep HW hb5)
  clear hb5
  obtain ⟨tB0, tB1, tB2, tB3, tB4⟩ := W11.2.1
  obtain ⟨tD0, tD1, tD2, tD3, tD4⟩ := VD.2.1
  refine hK.out _ _ ?_ (fun hHeld => ?_)
  · exact ⟨c0, c1, tB0, tB1, tB2, tB3, tB4⟩
  clear hK K
  try simp only [Act.put, List.setIfInBounds_toArray, List.set_cons_zero, List.set_cons_succ]
  refine wpAnyH_ready (rs := [10]) (by kernel_rfl) (by simp) (AllReadyH.cons rfl (fun K hK => ?_) AllReadyH.nil)
  go_simp
  obtain ⟨Y, hY⟩ : ∃ X : World, X = set5 w5 (gd) (q00.mul (q11.sub ((q10.div q00).mul q01))) M1 M2 M3 := ⟨_, rfl⟩
  have hw : set5 w5 (gd) (q00.mul (q11.sub ((q10.div q00).mul q01))) M1 M2 M3 = Y := hY.symm
  unfold set5 at hw
  rw [hw]
  clear hw
  replace c0 := set5_cell (q := (q00.mul (q11.sub ((q10.div q00).mul q01)))) (A1 := M1) (A2 := M2) (A3 := M3) c0 np0
  rw [← hY] at c0
  replace c1 := set5_cell (q := (q00.mul (q11.sub ((q10.div q00).mul q01)))) (A1 := M1) (A2 := M2) (A3 := M3) c1 np0
  rw [← hY] at c1
  replace tB0 := set5_cell (q := (q00.mul (q11.sub ((q10.div q00).mul q01)))) (A1 := M1) (A2 := M2) (A3 := M3) tB0 np1
  rw [← hY] at tB0
  replace s0_0 := set5_cell (q := (q00.mul (q11.sub ((q10.div q00).mul q01)))) (A1 := M1) (A2 := M2) (A3 := M3) s0_0 np2
  rw [← hY] at s0_0
  replace tB1 := set5_cell (q := (q00.mul (q11.sub ((q10.div q00).mul q01)))) (A1 := M1) (A2 := M2) (A3 := M3) tB1 np1
  rw [← hY] at tB1
  replace s0_1 := set5_cell (q := (q00.mul (q11.sub ((q10.div q00).mul q01)))) (A1 := M1) (A2 := M2) (A3 := M3) s0_1 np2
  rw [← hY] at s0_1
  replace tB2 := set5_cell (q := (q00.mul (q11.sub ((q10.div q00).mul q01)))) (A1 := M1) (A2 := M2) (A3 := M3) tB2 np1
  rw [← hY] at tB2
  replace s0_2 := set5_cell (q := (q00.mul (q11.sub ((q10.div q00).mul q01)))) (A1 := M1) (A2 := M2) (A3 := M3) s0_2 np2
  rw [← hY] at s0_2
  replace tB3 := set5_cell (q := (q00.mul (q11.sub ((q10.div q00).mul q01)))) (A1 := M1) (A2 := M2) (A3 := M3) tB3 np1
  rw [← hY] at tB3
  replace s0_3 := set5_cell (q := (q00.mul (q11.sub ((q10.div q00).mul q01)))) (A1 := M1) (A2 := M2) (A3 := M3) s0_3 np2
  rw [← hY] at s0_3
  replace tB4 := set5_cell (q := (q00.mul (q11.sub ((q10.div q00).mul q01)))) (A1 := M1) (A2 := M2) (A3 := M3) tB4 np1
  rw [← hY] at tB4
  replace s0_4 := set5_cell (q := (q00.mul (q11.sub ((q10.div q00).mul q01)))) (A1 := M1) (A2 := M2) (A3 := M3) s0_4 np2
  rw [← hY] at s0_4
  replace g0_0 := set5_frozen (p := gd) (q := (q00.mul (q11.sub ((q10.div q00).mul q01)))) (A1 := M1) (A2 := M2) (A3 := M3) g0_0
  rw [← hY] at g0_0
  replace g0_1 := set5_frozen (p := gd) (q := (q00.mul (q11.sub ((q10.div q00).mul q01)))) (A1 := M1) (A2 := M2) (A3 := M3) g0_1
  rw [← hY] at g0_1
  replace g0_2 := set5_frozen (p := gd) (q := (q00.mul (q11.sub ((q10.div q00).mul q01)))) (A1 := M1) (A2 := M2) (A3 := M3) g0_2
  rw [← hY] at g0_2
  replace g0_3 := set5_frozen (p := gd) (q := (q00.mul (q11.sub ((q10.div q00).mul q01)))) (A1 := M1) (A2 := M2) (A3 := M3) g0_3
  rw [← hY] at g0_3
  replace g0_4 := set5_frozen (p := gd) (q := (q00.mul (q11.sub ((q10.div q00).mul q01)))) (A1 := M1) (A2 := M2) (A3 := M3) g0_4
  rw [← hY] at g0_4
  have D5 := set5_self (q := (q00.mul (q11.sub ((q10.div q00).mul q01)))) (A1 := M1) (A2 := M2) (A3 := M3) tD0 tD1 tD2 tD3 tD4
  rw [← hY] at D5
  replace hM := set5_num3 (q := (q00.mul (q11.sub ((q10.div q00).mul q01)))) (A1 := M1) (A2 := M2) (A3 := M3) hM tD0
  rw [← hY] at hM
  replace HW : Hid (Below w.heap.size w Y) := by rw [hY]; exact Lib.hid (set5_below HW.out np4)
  have l0' : w.heap.size < Y.heap.size := by rw [hY, set5_size]; exact l0
  clear hY tD0 tD1 tD2 tD3 tD4 VD W11 r0 r1 r2 r3 r4 f0 f1 f2 f3 f4 e0 e1 e2 e3 e4 l0 l1
  refine hK.out _ _ ?_ (fun hHeld => ?_)
  · exact ⟨c0, c1, tB0, tB1, tB2, tB3, tB4⟩
  clear hK K
  try simp only [Act.put, List.setIfInBounds_toArray, List.set_cons_zero, List.set_cons_succ]
  refine wpAnyH_done (by kernel_rfl) ?_ _
  obtain ⟨tD0, tD1, tD2, tD3, tD4⟩ := D5
  go_wp2_with fail
  rw [rounds_succ]
  go_wp2_with fail
  obtain ⟨Z, hZ⟩ : ∃ X : World, X = set5 Y (w.heap.size) (q00.mul (q11.sub ((q10.div q00).mul q01))) M1 M2 M3 := ⟨_, rfl⟩
  have hw : set5 Y (w.heap.size) (q00.mul (q11.sub ((q10.div q00).mul q01))) M1 M2 M3 = Z := hZ.symm
  unfold set5 at hw
  rw [hw]
  clear hw
  have k5 := set5_self (q := (q00.mul (q11.sub ((q10.div q00).mul q01)))) (A1 := M1) (A2 := M2) (A3 := M3) s0_0 s0_1 s0_2 s0_3 s0_4
  rw [← hZ] at k5
  replace hM := set5_num3 (q := (q00.mul (q11.sub ((q10.div q00).mul q01)))) (A1 := M1) (A2 := M2) (A3 := M3) hM s0_0
  rw [← hZ] at hM
  replace HW : Hid (Below w.heap.size w Z) := by rw [hZ]; exact Lib.hid (set5_below HW.out (Nat.le_refl _))
  clear hZ
  obtain ⟨k0, k1, k2, k3, k4⟩ := k5
  exact bodyPost_ret (v := .tuple #[.agg #[.bool (sn (na (q00.mul (q11.sub ((q10.div q00).mul q01))))), .slice M1 (ln (ab (na (q00.mul (q11.sub ((q10.div q00).mul q01)))))) (ln (ab (na (q00.mul (q11.sub ((q10.div q00).mul q01)))))), .bool (sn (nb (q00.mul (q11.sub ((q10.div q00).mul q01))))), .slice M2 (ln (ab (nb (q00.mul (q11.sub ((q10.div q00).mul q01)))))) (ln (ab (nb (q00.mul (q11.sub ((q10.div q00).mul q01)))))), .slice M3 (ln (un (q00.mul (q11.sub ((q10.div q00).mul q01))))) (ln (un (q00.mul (q11.sub ((q10.div q00).mul q01)))))], .int .i64 0]) (by simp [results, Try.results9, go_sem, k0, k1, k2, k3, k4]) rfl ⟨M1, M2, M3, rfl, hM, HW.out⟩
end Go.Proofs.Ytdpjknjlhchmcaa

namespace Go.Proofs.Ytdpjknjlhchmcaa
open Go.RowKit Pl
set_option linter.unusedVariables false
set_option linter.unusedSimpArgs false
theorem f64bits (x : Nat) (w : World) : (callFunc 43 #[.float .f64 x]).run Try.prog w = .ok (.value (.int .u64 x)) w := by kernel_rfl
theorem f64from (x : Nat) (w : World) : (callFunc 89 #[.int .u64 x]).run Try.prog w = .ok (.value (.float .f64 x)) w := by kernel_rfl
set_option maxRecDepth 100000 in
set_option maxHeartbeats 4000000 in
theorem ldexp_a (w : World) : Calls Try.prog 85 #[.float .f64 4844071759199705498, .int .i64 (-56)] w (fun e w' => e = .returned (.float .f64 4591870180066957722) ∧ w' = w) := by
  have h1 := f64bits
  have e0 : bits .andNot .u64 4844071759199705498 9223372036854775808 = 4844071759199705498 := by kernel_rfl
  have e1 : (FloatKind.f64.format.order 4844071759199705498 9218868437227405311 == some Ordering.gt) = false := by kernel_rfl
  have e2 : (FloatKind.f64.format.order 4844071759199705498 4844071759199705498 != some Ordering.eq) = false := by kernel_rfl
  have e3 : (FloatKind.f64.format.order 4844071759199705498 4503599627370496 == some Ordering.lt) = false := by kernel_rfl
  have e4 : (FloatKind.f64.format.order 4844071759199705498 0 == some Ordering.eq) = false := by kernel_rfl
  have e5 : bits .and .i64 1075 2047 = 1075 := by kernel_rfl
  have e6 : bits .andNot .u64 4844071759199705498 9218868437227405312 = 2702159776422298 := by kernel_rfl
  have e7 : bits .or .u64 2702159776422298 4589168020290535424 = 4591870180066957722 := by kernel_rfl
  have g0 : ∀ w, (callFunc 89 #[.int .u64 4844071759199705498]).run Try.prog w = .ok (.value (.float .f64 4844071759199705498)) w := fun w => f64from 4844071759199705498 w
  have g1 : ∀ w, (callFunc 89 #[.int .u64 4591870180066957722]).run Try.prog w = .ok (.value (.float .f64 4591870180066957722)) w := fun w => f64from 4591870180066957722 w
  have hm : ∀ w, (binOp .mul 80 (.float .f64 4607182418800017408) (.float .f64 4591870180066957722)).run Try.prog w = .ok (.float .f64 4591870180066957722) w := fun w => by kernel_rfl
  go_enter Try.func85, Try.ntmps85
  go_wp2
  go_ret
  exact ⟨rfl, rfl⟩
set_option maxRecDepth 100000 in
set_option maxHeartbeats 4000000 in
theorem ldexp_b (w : World) : Calls Try.prog 85 #[.float .f64 4843171039274231398, .int .i64 (-53)] w (fun e w' => e = .returned (.float .f64 4604480259023595110) ∧ w' = w) := by
  have h1 := f64bits
  have e0 : bits .andNot .u64 4843171039274231398 9223372036854775808 = 4843171039274231398 := by kernel_rfl
  have e1 : (FloatKind.f64.format.order 4843171039274231398 9218868437227405311 == some Ordering.gt) = false := by kernel_rfl
  have e2 : (FloatKind.f64.format.order 4843171039274231398 4843171039274231398 != some Ordering.eq) = false := by kernel_rfl
  have e3 : (FloatKind.f64.format.order 4843171039274231398 4503599627370496 == some Ordering.lt) = false := by kernel_rfl
  have e4 : (FloatKind.f64.format.order 4843171039274231398 0 == some Ordering.eq) = false := by kernel_rfl
  have e5 : bits .and .i64 1075 2047 = 1075 := by kernel_rfl
  have e6 : bits .andNot .u64 4843171039274231398 9218868437227405312 = 1801439850948198 := by kernel_rfl
  have e7 : bits .or .u64 1801439850948198 4602678819172646912 = 4604480259023595110 := by kernel_rfl
  have g0 : ∀ w, (callFunc 89 #[.int .u64 4843171039274231398]).run Try.prog w = .ok (.value (.float .f64 4843171039274231398)) w := fun w => f64from 4843171039274231398 w
  have g1 : ∀ w, (callFunc 89 #[.int .u64 4604480259023595110]).run Try.prog w = .ok (.value (.float .f64 4604480259023595110)) w := fun w => f64from 4604480259023595110 w
  have hm : ∀ w, (binOp .mul 80 (.float .f64 4607182418800017408) (.float .f64 4604480259023595110)).run Try.prog w = .ok (.float .f64 4604480259023595110) w := fun w => by kernel_rfl
  go_enter Try.func85, Try.ntmps85
  go_wp2
  go_ret
  exact ⟨rfl, rfl⟩
end Go.Proofs.Ytdpjknjlhchmcaa

namespace Go.Proofs.Ytdpjknjlhchmcaa
open Go.RowKit Pl
set_option linter.unusedVariables false
set_option linter.unusedSimpArgs false
theorem shl_to (x n : Nat) (A : Option Addr) (w : World) (hx : Nat32 w A x) (hbx : ln x ≤ 35184372088832) (hn : n ≤ 1099511627776) {k : Int} (hk : k = (n : Int)) {v : Nat} (h : x * 2 ^ n = v) :
    Calls Try.prog 74 #[.slice A (ln x) (ln x), .int .i64 k] w (RetNat w v) := by subst hk; exact h ▸ shl_any x n A w hx hbx hn
theorem cmpn_to (x y : Nat) (A B : Option Addr) (w : World) (hx : Nat32 w A x) (hy : Nat32 w B y) (hbx : ln x ≤ 35184372088832) {c : Int} (h : cmpN x y = c) :
    Calls Try.prog 39 #[.slice A (ln x) (ln x), .slice B (ln y) (ln y)] w (RetInt w c) := h ▸ cmp_any x y A B w hx hy hbx
theorem divn_to (x y : Nat) (A B : Option Addr) (w : World) (hx : Nat32 w A x) (hy : Nat32 w B y) (hbx : ln x ≤ 1099511627776) (hby : ln y ≤ 1099511627776) (hy0 : y ≠ 0) {q r : Nat} (h : x / y = q) (k : x % y = r) :
    Calls Try.prog 62 #[.slice A (ln x) (ln x), .slice B (ln y) (ln y)] w (RetNat2 w q r) := by subst h; subst k; exact div_any x y A B w hx hy hbx hby hy0
theorem ln_lit {n k : Nat} (h : n < 4294967296 ^ k) (hk : 4294967296 ^ k ≤ n * 4294967296) (h0 : 0 < k) : ln n = k := by
  have h1 := ln_le h
  have h2 := lt_ln n
  have h3 : ¬ ln n ≤ k - 1 := fun hl => by
    have h4 : 4294967296 ^ ln n ≤ 4294967296 ^ (k - 1) := Nat.pow_le_pow_right (by omega) hl
    have h5 : 4294967296 ^ k = 4294967296 ^ (k - 1) * 4294967296 := by rw [← Nat.pow_succ, show (k - 1).succ = k by omega]
    omega
  omega
set_option maxHeartbeats 4000000 in
theorem len_small (n : Nat) (A : Option Addr) (w : World) (hx : Nat32 w A n) (h0 : n ≠ 0) (h1 : n < 4294967296) {a : Int} (ha : ((Lib.bitLen n : Nat) : Int) = a) (ha1 : 0 ≤ a) (ha2 : a ≤ 32) :
    Calls Try.prog 84 #[.slice A (ln n) (ln n)] w fun e w' => e = .returned (.int .i64 a) ∧ w' = w := by
  have hl : ln n = 1 := ln_lit (by simpa using h1) (by omega) (by omega)
  obtain ⟨b, rfl, hb, hc⟩ := hx h0
  have g := hc 0 (by omega)
  rw [show wd n 0 = n by rw [wd_0, Nat.mod_eq_of_lt h1]] at g
  rw [hl]
  have HA := Lib.hid ha
  have H1 := Lib.hid h1
  clear hc hl h0 hx ha h1
  go_enter Try.func84, Try.ntmps84
  go_wp2_with fail
  refine (Try.bits_Len32 (n : Int) w (by omega) (by have := H1.out; omega)).mono ?_
  rintro e w1 ⟨rfl, rfl⟩
  rw [show ((n : Int).toNat) = n by omega, HA.out]
  go_wp2_with fail
  go_ret
  exact ⟨rfl, rfl⟩
set_option maxRecDepth 100000 in
set_option maxHeartbeats 4000000 in
theorem round_a (n d : Nat) (N D : Option Addr) (w : World) (hn : n = 1) (hd : d = 10) (hx : Nat32 w N n) (hy : Nat32 w D d) :
    Calls Try.prog 78 #[.agg #[.int .i64 53, .int .i64 (-1074), .int .i64 1023], .slice N (ln n) (ln n), .slice D (ln d) (ln d), .int .i64 2] w (fun e w' => e = .returned (.float .f64 4591870180066957722) ∧ Below w.heap.size w w') := by
  have EN := Lib.hid hn
  have ED := Lib.hid hd
  clear hn hd
  have z1 : ((ln n : Int) == 0) = false := by rw [EN.out, ln_lit (n := 1) (k := 1) (by omega) (by omega) (by omega)]; rfl
  have e1 : bits .or .u64 0 2576980377 = 2576980377 := by kernel_rfl
  have e2 : bits .or .u64 2576980377 7205756826812416 = 7205759403792793 := by kernel_rfl
  have e3 : min (56 : Int) 1074 = 56 := by decide
  have hcv : ∀ w, (convert 78 80 (.int .u64 7205759403792794)).run Try.prog w = .ok (.float .f64 4844071759199705498) w := fun w => by kernel_rfl
  go_enter Try.func78, Try.ntmps78
  go_wp2_with fail
  obtain ⟨W, hW⟩ : ∃ W : World, W = (w.alloc (.cells #[.int .i64 53, .int .i64 (-1074), .int .i64 1023] 99)) := ⟨_, rfl⟩
  have s0_0 : W.cell? ⟨w.heap.size, 0, none⟩ = some (.int .i64 53) := by subst hW; go_simp
  have s0_1 : W.cell? ⟨w.heap.size, 1, none⟩ = some (.int .i64 (-1074)) := by subst hW; go_simp
  have s0_2 : W.cell? ⟨w.heap.size, 2, none⟩ = some (.int .i64 1023) := by subst hW; go_simp
  have HW : Below w.heap.size w W := by subst hW; exact ((Below.refl w.heap.size w).alloc (Nat.le_refl _) _)
  have l0 : w.heap.size < W.heap.size := by subst hW; simp
  replace hx := hx.to HW
  replace hy := hy.to HW
  rw [← hW]
  clear hW
  replace HW := Lib.hid HW
  refine (len_small n N _ (by exact hx) (by rw [EN.out]; omega) (by rw [EN.out]; omega) (a := 1) (by rw [EN.out]; rfl) (by omega) (by omega)).mono ?_
  rintro e w9 ⟨rfl, rfl⟩
  go_wp2_with fail
  refine (len_small d D _ (by exact hy) (by rw [ED.out]; omega) (by rw [ED.out]; omega) (a := 4) (by rw [ED.out]; rfl) (by omega) (by omega)).mono ?_
  rintro e w9 ⟨rfl, rfl⟩
  go_wp2_with fail
  refine (shl_to n 3 N _ (by exact hx) (by rw [EN.out]; exact (Nat.le_trans (ln_le (n := 1) (k := 1) (by decide)) (by decide : 1 ≤ 35184372088832))) (by omega) (by decide) (v := 8) (by rw [EN.out])).mono ?_
  rintro e w1 ⟨B1, rfl, h1, hb1⟩
  replace s0_0 := keepc hb1 s0_0 l0
  replace s0_1 := keepc hb1 s0_1 l0
  replace s0_2 := keepc hb1 s0_2 l0
  replace l0 := Nat.lt_of_lt_of_le l0 hb1.size
  replace hx := hx.to hb1
  replace hy := hy.to hb1
  replace HW := Lib.hid (hstep HW hb1)
  clear hb1
  go_wp2_with fail
  refine (shl_to d 0 D _ (by exact hy) (by rw [ED.out]; exact (Nat.le_trans (ln_le (n := 10) (k := 1) (by decide)) (by decide : 1 ≤ 35184372088832))) (by omega) (by decide) (v := 10) (by rw [ED.out])).mono ?_
  rintro e w2 ⟨B2, rfl, h2, hb2⟩
  replace s0_0 := keepc hb2 s0_0 l0
  replace s0_1 := keepc hb2 s0_1 l0
  replace s0_2 := keepc hb2 s0_2 l0
  replace l0 := Nat.lt_of_lt_of_le l0 hb2.size
  replace hx := hx.to hb2
  replace hy := hy.to hb2
  replace h1 := h1.to hb2
  replace HW := Lib.hid (hstep HW hb2)
  clear hb2
  go_wp2_with fail
  refine (cmpn_to 8 10 B1 B2 _ (by exact h1) (by exact h2) (Nat.le_trans (ln_le (n := 8) (k := 1) (by decide)) (by decide : 1 ≤ 35184372088832)) (c := -1) (by decide)).mono ?_
  rintro e w3 ⟨rfl, hb3⟩
  replace s0_0 := keepc hb3 s0_0 l0
  replace s0_1 := keepc hb3 s0_1 l0
  replace s0_2 := keepc hb3 s0_2 l0
  replace l0 := Nat.lt_of_lt_of_le l0 hb3.size
  replace hx := hx.to hb3
  replace hy := hy.to hb3
  replace h1 := h1.to hb3
  replace h2 := h2.to hb3
  replace HW := Lib.hid (hstep HW hb3)
  clear hb3
  go_wp2_with fail
  clear h1 h2
  refine (shl_to d 0 D _ (by exact hy) (by rw [ED.out]; exact (Nat.le_trans (ln_le (n := 10) (k := 1) (by decide)) (by decide : 1 ≤ 35184372088832))) (by omega) (by decide) (v := 10) (by rw [ED.out])).mono ?_
  rintro e w4 ⟨B3, rfl, h3, hb4⟩
  replace s0_0 := keepc hb4 s0_0 l0
  replace s0_1 := keepc hb4 s0_1 l0
  replace s0_2 := keepc hb4 s0_2 l0
  replace l0 := Nat.lt_of_lt_of_le l0 hb4.size
  replace hx := hx.to hb4
  replace hy := hy.to hb4
  replace HW := Lib.hid (hstep HW hb4)
  clear hb4
  go_wp2_with fail
  refine (shl_to n 56 N _ (by exact hx) (by rw [EN.out]; exact (Nat.le_trans (ln_le (n := 1) (k := 1) (by decide)) (by decide : 1 ≤ 35184372088832))) (by omega) (by decide) (v := 72057594037927936) (by rw [EN.out])).mono ?_
  rintro e w5 ⟨B4, rfl, h4, hb5⟩
  replace s0_0 := keepc hb5 s0_0 l0
  replace s0_1 := keepc hb5 s0_1 l0
  replace s0_2 := keepc hb5 s0_2 l0
  replace l0 := Nat.lt_of_lt_of_le l0 hb5.size
  replace hx := hx.to hb5
  replace hy := hy.to hb5
  replace h3 := h3.to hb5
  replace HW := Lib.hid (hstep HW hb5)
  clear hb5
  go_wp2_with fail
  refine (divn_to 72057594037927936 10 B4 B3 _ (by exact h4) (by exact h3) (Nat.le_trans (ln_le (n := 72057594037927936) (k := 2) (by decide)) (by decide : 2 ≤ 1099511627776)) (Nat.le_trans (ln_le (n := 10) (k := 1) (by decide)) (by decide : 1 ≤ 1099511627776)) (by omega) (q := 7205759403792793) (r := 6) (by decide) (by decide)).mono ?_
  rintro e w6 ⟨Q, R, rfl, hq, hr, hb6⟩
  replace s0_0 := keepc hb6 s0_0 l0
  replace s0_1 := keepc hb6 s0_1 l0
  replace s0_2 := keepc hb6 s0_2 l0
  replace l0 := Nat.lt_of_lt_of_le l0 hb6.size
  replace hx := hx.to hb6
  replace hy := hy.to hb6
  replace h3 := h3.to hb6
  replace h4 := h4.to hb6
  replace HW := Lib.hid (hstep HW hb6)
  clear hb6
  obtain ⟨qb, hQ, hqb, hqc⟩ := hq (by omega)
  subst hQ
  rw [show ln 7205759403792793 = 2 from ln_lit (by decide) (by decide) (by omega)] at hqc ⊢
  have c0 := hqc 0 (by omega)
  have c1 := hqc 1 (by omega)
  rw [show wd 7205759403792793 0 = 2576980377 by decide] at c0
  rw [show wd 7205759403792793 1 = 1677721 by decide] at c1
  clear hqc hq hqb h4
  go_wp2_with fail
  refine wp_loop_rounds 3 ?_
  rw [rounds_succ]
  go_wp2_with fail
  rw [rounds_succ]
  go_wp2_with fail
  rw [rounds_succ]
  go_wp2_with fail
  refine (shl_to 6 1 R _ (by exact hr) (Nat.le_trans (ln_le (n := 6) (k := 1) (by decide)) (by decide : 1 ≤ 35184372088832)) (by omega) (by decide) (v := 12) (by decide)).mono ?_
  rintro e w7 ⟨B5, rfl, h5, hb7⟩
  replace s0_0 := keepc hb7 s0_0 l0
  replace s0_1 := keepc hb7 s0_1 l0
  replace s0_2 := keepc hb7 s0_2 l0
  replace l0 := Nat.lt_of_lt_of_le l0 hb7.size
  replace hx := hx.to hb7
  replace hy := hy.to hb7
  replace h3 := h3.to hb7
  replace hr := hr.to hb7
  replace HW := Lib.hid (hstep HW hb7)
  clear hb7
  go_wp2_with fail
  refine (cmpn_to 12 10 B5 B3 _ (by exact h5) (by exact h3) (Nat.le_trans (ln_le (n := 12) (k := 1) (by decide)) (by decide : 1 ≤ 35184372088832)) (c := 1) (by decide)).mono ?_
  rintro e w8 ⟨rfl, hb8⟩
  replace s0_0 := keepc hb8 s0_0 l0
  replace s0_1 := keepc hb8 s0_1 l0
  replace s0_2 := keepc hb8 s0_2 l0
  replace l0 := Nat.lt_of_lt_of_le l0 hb8.size
  replace hx := hx.to hb8
  replace hy := hy.to hb8
  replace h3 := h3.to hb8
  replace hr := hr.to hb8
  replace h5 := h5.to hb8
  replace HW := Lib.hid (hstep HW hb8)
  clear hb8
  go_wp2_with fail
  refine (ldexp_a _).mono ?_
  rintro e w9 ⟨rfl, rfl⟩
  go_wp2_with fail
  exact bodyPost_ret (v := .float .f64 4591870180066957722) (by simp [results, Try.results78, go_sem]) rfl ⟨rfl, HW.out⟩
set_option maxRecDepth 100000 in
set_option maxHeartbeats 4000000 in
theorem round_b (n d : Nat) (N D : Option Addr) (w : World) (hn : n = 7) (hd : d = 10) (hx : Nat32 w N n) (hy : Nat32 w D d) :
    Calls Try.prog 78 #[.agg #[.int .i64 53, .int .i64 (-1074), .int .i64 1023], .slice N (ln n) (ln n), .slice D (ln d) (ln d), .int .i64 2] w (fun e w' => e = .returned (.float .f64 4604480259023595110) ∧ Below w.heap.size w w') := by
  have EN := Lib.hid hn
  have ED := Lib.hid hd
  clear hn hd
  have z1 : ((ln n : Int) == 0) = false := by rw [EN.out, ln_lit (n := 7) (k := 1) (by omega) (by omega) (by omega)]; rfl
  have e1 : bits .or .u64 0 1717986918 = 1717986918 := by kernel_rfl
  have e2 : bits .or .u64 1717986918 6305037760331776 = 6305039478318694 := by kernel_rfl
  have e3 : min (53 : Int) 1074 = 53 := by decide
  have hcv : ∀ w, (convert 78 80 (.int .u64 6305039478318694)).run Try.prog w = .ok (.float .f64 4843171039274231398) w := fun w => by kernel_rfl
  go_enter Try.func78, Try.ntmps78
  go_wp2_with fail
  obtain ⟨W, hW⟩ : ∃ W : World, W = (w.alloc (.cells #[.int .i64 53, .int .i64 (-1074), .int .i64 1023] 99)) := ⟨_, rfl⟩
  have s0_0 : W.cell? ⟨w.heap.size, 0, none⟩ = some (.int .i64 53) := by subst hW; go_simp
  have s0_1 : W.cell? ⟨w.heap.size, 1, none⟩ = some (.int .i64 (-1074)) := by subst hW; go_simp
  have s0_2 : W.cell? ⟨w.heap.size, 2, none⟩ = some (.int .i64 1023) := by subst hW; go_simp
  have HW : Below w.heap.size w W := by subst hW; exact ((Below.refl w.heap.size w).alloc (Nat.le_refl _) _)
  have l0 : w.heap.size < W.heap.size := by subst hW; simp
  replace hx := hx.to HW
  replace hy := hy.to HW
  rw [← hW]
  clear hW
  replace HW := Lib.hid HW
  refine (len_small n N _ (by exact hx) (by rw [EN.out]; omega) (by rw [EN.out]; omega) (a := 3) (by rw [EN.out]; rfl) (by omega) (by omega)).mono ?_
  rintro e w9 ⟨rfl, rfl⟩
  go_wp2_with fail
  refine (len_small d D _ (by exact hy) (by rw [ED.out]; omega) (by rw [ED.out]; omega) (a := 4) (by rw [ED.out]; rfl) (by omega) (by omega)).mono ?_
  rintro e w9 ⟨rfl, rfl⟩
  go_wp2_with fail
  refine (shl_to n 1 N _ (by exact hx) (by rw [EN.out]; exact (Nat.le_trans (ln_le (n := 7) (k := 1) (by decide)) (by decide : 1 ≤ 35184372088832))) (by omega) (by decide) (v := 14) (by rw [EN.out])).mono ?_
  rintro e w1 ⟨B1, rfl, h1, hb1⟩
  replace s0_0 := keepc hb1 s0_0 l0
  replace s0_1 := keepc hb1 s0_1 l0
  replace s0_2 := keepc hb1 s0_2 l0
  replace l0 := Nat.lt_of_lt_of_le l0 hb1.size
  replace hx := hx.to hb1
  replace hy := hy.to hb1
  replace HW := Lib.hid (hstep HW hb1)
  clear hb1
  go_wp2_with fail
  refine (shl_to d 0 D _ (by exact hy) (by rw [ED.out]; exact (Nat.le_trans (ln_le (n := 10) (k := 1) (by decide)) (by decide : 1 ≤ 35184372088832))) (by omega) (by decide) (v := 10) (by rw [ED.out])).mono ?_
  rintro e w2 ⟨B2, rfl, h2, hb2⟩
  replace s0_0 := keepc hb2 s0_0 l0
  replace s0_1 := keepc hb2 s0_1 l0
  replace s0_2 := keepc hb2 s0_2 l0
  replace l0 := Nat.lt_of_lt_of_le l0 hb2.size
  replace hx := hx.to hb2
  replace hy := hy.to hb2
  replace h1 := h1.to hb2
  replace HW := Lib.hid (hstep HW hb2)
  clear hb2
  go_wp2_with fail
  refine (cmpn_to 14 10 B1 B2 _ (by exact h1) (by exact h2) (Nat.le_trans (ln_le (n := 14) (k := 1) (by decide)) (by decide : 1 ≤ 35184372088832)) (c := 1) (by decide)).mono ?_
  rintro e w3 ⟨rfl, hb3⟩
  replace s0_0 := keepc hb3 s0_0 l0
  replace s0_1 := keepc hb3 s0_1 l0
  replace s0_2 := keepc hb3 s0_2 l0
  replace l0 := Nat.lt_of_lt_of_le l0 hb3.size
  replace hx := hx.to hb3
  replace hy := hy.to hb3
  replace h1 := h1.to hb3
  replace h2 := h2.to hb3
  replace HW := Lib.hid (hstep HW hb3)
  clear hb3
  go_wp2_with fail
  clear h1 h2
  refine (shl_to d 0 D _ (by exact hy) (by rw [ED.out]; exact (Nat.le_trans (ln_le (n := 10) (k := 1) (by decide)) (by decide : 1 ≤ 35184372088832))) (by omega) (by decide) (v := 10) (by rw [ED.out])).mono ?_
  rintro e w4 ⟨B3, rfl, h3, hb4⟩
  replace s0_0 := keepc hb4 s0_0 l0
  replace s0_1 := keepc hb4 s0_1 l0
  replace s0_2 := keepc hb4 s0_2 l0
  replace l0 := Nat.lt_of_lt_of_le l0 hb4.size
  replace hx := hx.to hb4
  replace hy := hy.to hb4
  replace HW := Lib.hid (hstep HW hb4)
  clear hb4
  go_wp2_with fail
  refine (shl_to n 53 N _ (by exact hx) (by rw [EN.out]; exact (Nat.le_trans (ln_le (n := 7) (k := 1) (by decide)) (by decide : 1 ≤ 35184372088832))) (by omega) (by decide) (v := 63050394783186944) (by rw [EN.out])).mono ?_
  rintro e w5 ⟨B4, rfl, h4, hb5⟩
  replace s0_0 := keepc hb5 s0_0 l0
  replace s0_1 := keepc hb5 s0_1 l0
  replace s0_2 := keepc hb5 s0_2 l0
  replace l0 := Nat.lt_of_lt_of_le l0 hb5.size
  replace hx := hx.to hb5
  replace hy := hy.to hb5
  replace h3 := h3.to hb5
  replace HW := Lib.hid (hstep HW hb5)
  clear hb5
  go_wp2_with fail
  refine (divn_to 63050394783186944 10 B4 B3 _ (by exact h4) (by exact h3) (Nat.le_trans (ln_le (n := 63050394783186944) (k := 2) (by decide)) (by decide : 2 ≤ 1099511627776)) (Nat.le_trans (ln_le (n := 10) (k := 1) (by decide)) (by decide : 1 ≤ 1099511627776)) (by omega) (q := 6305039478318694) (r := 4) (by decide) (by decide)).mono ?_
  rintro e w6 ⟨Q, R, rfl, hq, hr, hb6⟩
  replace s0_0 := keepc hb6 s0_0 l0
  replace s0_1 := keepc hb6 s0_1 l0
  replace s0_2 := keepc hb6 s0_2 l0
  replace l0 := Nat.lt_of_lt_of_le l0 hb6.size
  replace hx := hx.to hb6
  replace hy := hy.to hb6
  replace h3 := h3.to hb6
  replace h4 := h4.to hb6
  replace HW := Lib.hid (hstep HW hb6)
  clear hb6
  obtain ⟨qb, hQ, hqb, hqc⟩ := hq (by omega)
  subst hQ
  rw [show ln 6305039478318694 = 2 from ln_lit (by decide) (by decide) (by omega)] at hqc ⊢
  have c0 := hqc 0 (by omega)
  have c1 := hqc 1 (by omega)
  rw [show wd 6305039478318694 0 = 1717986918 by decide] at c0
  rw [show wd 6305039478318694 1 = 1468006 by decide] at c1
  clear hqc hq hqb h4
  go_wp2_with fail
  refine wp_loop_rounds 3 ?_
  rw [rounds_succ]
  go_wp2_with fail
  rw [rounds_succ]
  go_wp2_with fail
  rw [rounds_succ]
  go_wp2_with fail
  refine (shl_to 4 1 R _ (by exact hr) (Nat.le_trans (ln_le (n := 4) (k := 1) (by decide)) (by decide : 1 ≤ 35184372088832)) (by omega) (by decide) (v := 8) (by decide)).mono ?_
  rintro e w7 ⟨B5, rfl, h5, hb7⟩
  replace s0_0 := keepc hb7 s0_0 l0
  replace s0_1 := keepc hb7 s0_1 l0
  replace s0_2 := keepc hb7 s0_2 l0
  replace l0 := Nat.lt_of_lt_of_le l0 hb7.size
  replace hx := hx.to hb7
  replace hy := hy.to hb7
  replace h3 := h3.to hb7
  replace hr := hr.to hb7
  replace HW := Lib.hid (hstep HW hb7)
  clear hb7
  go_wp2_with fail
  refine (cmpn_to 8 10 B5 B3 _ (by exact h5) (by exact h3) (Nat.le_trans (ln_le (n := 8) (k := 1) (by decide)) (by decide : 1 ≤ 35184372088832)) (c := -1) (by decide)).mono ?_
  rintro e w8 ⟨rfl, hb8⟩
  replace s0_0 := keepc hb8 s0_0 l0
  replace s0_1 := keepc hb8 s0_1 l0
  replace s0_2 := keepc hb8 s0_2 l0
  replace l0 := Nat.lt_of_lt_of_le l0 hb8.size
  replace hx := hx.to hb8
  replace hy := hy.to hb8
  replace h3 := h3.to hb8
  replace hr := hr.to hb8
  replace h5 := h5.to hb8
  replace HW := Lib.hid (hstep HW hb8)
  clear hb8
  go_wp2_with fail
  refine (ldexp_b _).mono ?_
  rintro e w9 ⟨rfl, rfl⟩
  go_wp2_with fail
  exact bodyPost_ret (v := .float .f64 4604480259023595110) (by simp [results, Try.results78, go_sem]) rfl ⟨rfl, HW.out⟩
end Go.Proofs.Ytdpjknjlhchmcaa

namespace Go.Proofs.Ytdpjknjlhchmcaa
open Go.RowKit Pl
set_option linter.unusedVariables false
set_option linter.unusedSimpArgs false
set_option maxHeartbeats 4000000 in
theorem double_any (w : World) :
    Calls Try.prog 66 #[] w (fun e w' => e = .returned (.agg #[.int .i64 53, .int .i64 (-1074), .int .i64 1023]) ∧ Below w.heap.size w w') := by
  go_enter Try.func66, Try.ntmps66
  go_wp2
  exact bodyPost_ret (v := .agg #[.int .i64 53, .int .i64 (-1074), .int .i64 1023]) (by simp [results, Try.results66, go_sem]) rfl ⟨rfl, (Below.refl _ _).alloc (Nat.le_refl _) _⟩
set_option maxHeartbeats 4000000 in
theorem signed_a (x : Int) (d : Nat) (A D : Option Addr) (w : World) (hv : x = 1) (hd : d = 10) (hx : Nat32 w A (ab x)) (hy : Nat32 w D d) :
    Calls Try.prog 67 #[.agg #[.int .i64 53, .int .i64 (-1074), .int .i64 1023], .agg #[.bool (sn (x)), .slice A (ln (ab (x))) (ln (ab (x)))], .slice D (ln d) (ln d), .int .i64 2] w (fun e w' => e = .returned (.float .f64 4591870180066957722) ∧ Below w.heap.size w w') := by
  have t1 : sn x = false := by rw [hv]; decide
  have E1 : Hid (ab x = 1) := Lib.hid (by rw [hv]; decide)
  have E2 := Lib.hid hd
  clear hv hd
  go_enter Try.func67, Try.ntmps67
  go_wp2_with fail
  obtain ⟨W, hW⟩ : ∃ W : World, W = ((w.alloc (.cells #[.int .i64 53, .int .i64 (-1074), .int .i64 1023] 99)).alloc (.cells #[.bool false, .slice A (ln (ab x)) (ln (ab x))] 32)) := ⟨_, rfl⟩
  have s0_0 : W.cell? ⟨w.heap.size, 0, none⟩ = some (.int .i64 53) := by subst hW; go_simp
  have s0_1 : W.cell? ⟨w.heap.size, 1, none⟩ = some (.int .i64 (-1074)) := by subst hW; go_simp
  have s0_2 : W.cell? ⟨w.heap.size, 2, none⟩ = some (.int .i64 1023) := by subst hW; go_simp
  have s1_0 : W.cell? ⟨w.heap.size + 1, 0, none⟩ = some (.bool false) := by subst hW; go_simp
  have s1_1 : W.cell? ⟨w.heap.size + 1, 1, none⟩ = some (.slice A (ln (ab x)) (ln (ab x))) := by subst hW; go_simp
  have HW : Below w.heap.size w W := by subst hW; exact (((Below.refl w.heap.size w).alloc (Nat.le_refl _) _).alloc (by simp) _)
  have l0 : w.heap.size < W.heap.size := by subst hW; simp <;> omega
  have l1 : w.heap.size + 1 < W.heap.size := by subst hW; simp
  replace hx := hx.to HW
  replace hy := hy.to HW
  rw [← hW]
  clear hW
  replace HW := Lib.hid HW
  refine (round_a (ab x) d A D _ E1.out E2.out (by exact hx) (by exact hy)).mono ?_
  rintro e w1 ⟨rfl, hb1⟩
  replace HW := Lib.hid (hstep HW hb1)
  go_wp2_with fail
  exact bodyPost_ret (v := .float .f64 4591870180066957722) (by simp [results, Try.results67, go_sem]) rfl ⟨rfl, HW.out⟩
set_option maxHeartbeats 4000000 in
theorem signed_b (x : Int) (d : Nat) (A D : Option Addr) (w : World) (hv : x = 7) (hd : d = 10) (hx : Nat32 w A (ab x)) (hy : Nat32 w D d) :
    Calls Try.prog 67 #[.agg #[.int .i64 53, .int .i64 (-1074), .int .i64 1023], .agg #[.bool (sn (x)), .slice A (ln (ab (x))) (ln (ab (x)))], .slice D (ln d) (ln d), .int .i64 2] w (fun e w' => e = .returned (.float .f64 4604480259023595110) ∧ Below w.heap.size w w') := by
  have t1 : sn x = false := by rw [hv]; decide
  have E1 : Hid (ab x = 7) := Lib.hid (by rw [hv]; decide)
  have E2 := Lib.hid hd
  clear hv hd
  go_enter Try.func67, Try.ntmps67
  go_wp2_with fail
  obtain ⟨W, hW⟩ : ∃ W : World, W = ((w.alloc (.cells #[.int .i64 53, .int .i64 (-1074), .int .i64 1023] 99)).alloc (.cells #[.bool false, .slice A (ln (ab x)) (ln (ab x))] 32)) := ⟨_, rfl⟩
  have s0_0 : W.cell? ⟨w.heap.size, 0, none⟩ = some (.int .i64 53) := by subst hW; go_simp
  have s0_1 : W.cell? ⟨w.heap.size, 1, none⟩ = some (.int .i64 (-1074)) := by subst hW; go_simp
  have s0_2 : W.cell? ⟨w.heap.size, 2, none⟩ = some (.int .i64 1023) := by subst hW; go_simp
  have s1_0 : W.cell? ⟨w.heap.size + 1, 0, none⟩ = some (.bool false) := by subst hW; go_simp
  have s1_1 : W.cell? ⟨w.heap.size + 1, 1, none⟩ = some (.slice A (ln (ab x)) (ln (ab x))) := by subst hW; go_simp
  have HW : Below w.heap.size w W := by subst hW; exact (((Below.refl w.heap.size w).alloc (Nat.le_refl _) _).alloc (by simp) _)
  have l0 : w.heap.size < W.heap.size := by subst hW; simp <;> omega
  have l1 : w.heap.size + 1 < W.heap.size := by subst hW; simp
  replace hx := hx.to HW
  replace hy := hy.to HW
  rw [← hW]
  clear hW
  replace HW := Lib.hid HW
  refine (round_b (ab x) d A D _ E1.out E2.out (by exact hx) (by exact hy)).mono ?_
  rintro e w1 ⟨rfl, hb1⟩
  replace HW := Lib.hid (hstep HW hb1)
  go_wp2_with fail
  exact bodyPost_ret (v := .float .f64 4604480259023595110) (by simp [results, Try.results67, go_sem]) rfl ⟨rfl, HW.out⟩
set_option maxHeartbeats 4000000 in
theorem near_a (x : Cx) (A1 A2 A3 : Option Addr) (w : World) (h1 : na x = 1) (h2 : nb x = 7) (h3 : nd x = 10) (hx : Num3 w A1 A2 A3 x) :
    Calls Try.prog 44 #[.agg #[.bool (sn (na x)), .slice A1 (ln (ab (na x))) (ln (ab (na x))), .bool (sn (nb x)), .slice A2 (ln (ab (nb x))) (ln (ab (nb x))), .slice A3 (ln (un x)) (ln (un x))]] w (fun e w' => e = .returned (.complex .f64 4591870180066957722 4604480259023595110) ∧ Below w.heap.size w w') := by
  have E1 := Lib.hid h1
  have E2 := Lib.hid h2
  have E3 := Lib.hid h3
  clear h1 h2 h3
  go_enter Try.func44, Try.ntmps44
  go_wp2_with fail
  obtain ⟨W, hW⟩ : ∃ W : World, W = (w.alloc (.cells #[.bool (sn (na x)), .slice A1 (ln (ab (na x))) (ln (ab (na x))), .bool (sn (nb x)), .slice A2 (ln (ab (nb x))) (ln (ab (nb x))), .slice A3 (ln (un x)) (ln (un x))] 34)) := ⟨_, rfl⟩
  have s0_0 : W.cell? ⟨w.heap.size, 0, none⟩ = some (.bool (sn (na x))) := by subst hW; go_simp
  have s0_1 : W.cell? ⟨w.heap.size, 1, none⟩ = some (.slice A1 (ln (ab (na x))) (ln (ab (na x)))) := by subst hW; go_simp
  have s0_2 : W.cell? ⟨w.heap.size, 2, none⟩ = some (.bool (sn (nb x))) := by subst hW; go_simp
  have s0_3 : W.cell? ⟨w.heap.size, 3, none⟩ = some (.slice A2 (ln (ab (nb x))) (ln (ab (nb x)))) := by subst hW; go_simp
  have s0_4 : W.cell? ⟨w.heap.size, 4, none⟩ = some (.slice A3 (ln (un x)) (ln (un x))) := by subst hW; go_simp
  have HW : Below w.heap.size w W := by subst hW; exact ((Below.refl w.heap.size w).alloc (Nat.le_refl _) _)
  have l0 : w.heap.size < W.heap.size := by subst hW; simp
  replace hx := hx.to HW
  rw [← hW]
  clear hW
  replace HW := Lib.hid HW
  go_region_held3 (fun w' => w'.cell? ⟨w.heap.size, 0, none⟩ = some (.bool (sn (na x))) ∧ w'.cell? ⟨w.heap.size, 1, none⟩ = some (.slice A1 (ln (ab (na x))) (ln (ab (na x)))) ∧ w'.cell? ⟨w.heap.size, 2, none⟩ = some (.bool (sn (nb x))) ∧ w'.cell? ⟨w.heap.size, 3, none⟩ = some (.slice A2 (ln (ab (nb x))) (ln (ab (nb x)))) ∧ w'.cell? ⟨w.heap.size, 4, none⟩ = some (.slice A3 (ln (un x)) (ln (un x)))) (first | with_reducible exact ⟨s0_0, s0_1, s0_2, s0_3, s0_4⟩ | with_reducible exact ⟨s0_0, s0_1, s0_2, s0_3, s0_4⟩ | exact ⟨s0_0, s0_1, s0_2, s0_3, s0_4⟩) (first
    | (have _ := m5; go_at_call 67; refine (signed_b (nb x) (nd x) A2 D2 _ E2.out E3.out (by exact hx.2.1) (by exact hD2)).mono ?_; rintro e w6 ⟨rfl, hb6⟩; replace s0_0 := keepc hb6 s0_0 l0; replace s0_1 := keepc hb6 s0_1 l0; replace s0_2 := keepc hb6 s0_2 l0; replace s0_3 := keepc hb6 s0_3 l0; replace s0_4 := keepc hb6 s0_4 l0; replace l0 := Nat.lt_of_lt_of_le l0 hb6.size; replace hx := hx.to hb6; replace hD := hD.to hb6; replace hD2 := hD2.to hb6; replace HW := Lib.hid (hstep HW hb6); clear hb6; have m6 : True := trivial)
    | (have _ := m4; go_at_call 36; refine (den_any x A1 A2 A3 _ (by exact hx)).mono ?_; rintro e w5 ⟨D2, rfl, hD2, hb5⟩; replace s0_0 := keepc hb5 s0_0 l0; replace s0_1 := keepc hb5 s0_1 l0; replace s0_2 := keepc hb5 s0_2 l0; replace s0_3 := keepc hb5 s0_3 l0; replace s0_4 := keepc hb5 s0_4 l0; replace l0 := Nat.lt_of_lt_of_le l0 hb5.size; replace hx := hx.to hb5; replace hD := hD.to hb5; replace HW := Lib.hid (hstep HW hb5); clear hb5; have m5 : True := trivial)
    | (have _ := m3; go_at_call 66; refine (double_any _).mono ?_; rintro e w4 ⟨rfl, hb4⟩; replace s0_0 := keepc hb4 s0_0 l0; replace s0_1 := keepc hb4 s0_1 l0; replace s0_2 := keepc hb4 s0_2 l0; replace s0_3 := keepc hb4 s0_3 l0; replace s0_4 := keepc hb4 s0_4 l0; replace l0 := Nat.lt_of_lt_of_le l0 hb4.size; replace hx := hx.to hb4; replace hD := hD.to hb4; replace HW := Lib.hid (hstep HW hb4); clear hb4; have m4 : True := trivial)
    | (have _ := m2; go_at_call 67; refine (signed_a (na x) (nd x) A1 D _ E1.out E3.out (by exact hx.1) (by exact hD)).mono ?_; rintro e w3 ⟨rfl, hb3⟩; replace s0_0 := keepc hb3 s0_0 l0; replace s0_1 := keepc hb3 s0_1 l0; replace s0_2 := keepc hb3 s0_2 l0; replace s0_3 := keepc hb3 s0_3 l0; replace s0_4 := keepc hb3 s0_4 l0; replace l0 := Nat.lt_of_lt_of_le l0 hb3.size; replace hx := hx.to hb3; replace hD := hD.to hb3; replace HW := Lib.hid (hstep HW hb3); clear hb3; have m3 : True := trivial)
    | (have _ := m1; go_at_call 36; refine (den_any x A1 A2 A3 _ (by exact hx)).mono ?_; rintro e w2 ⟨D, rfl, hD, hb2⟩; replace s0_0 := keepc hb2 s0_0 l0; replace s0_1 := keepc hb2 s0_1 l0; replace s0_2 := keepc hb2 s0_2 l0; replace s0_3 := keepc hb2 s0_3 l0; replace s0_4 := keepc hb2 s0_4 l0; replace l0 := Nat.lt_of_lt_of_le l0 hb2.size; replace hx := hx.to hb2; replace HW := Lib.hid (hstep HW hb2); clear hb2; have m2 : True := trivial)
    | (go_at_call 66; refine (double_any _).mono ?_; rintro e w1 ⟨rfl, hb1⟩; have hb1 := undrew hb1; replace s0_0 := keepc hb1 s0_0 l0; replace s0_1 := keepc hb1 s0_1 l0; replace s0_2 := keepc hb1 s0_2 l0; replace s0_3 := keepc hb1 s0_3 l0; replace s0_4 := keepc hb1 s0_4 l0; replace l0 := Nat.lt_of_lt_of_le l0 hb1.size; replace hx := hx.to hb1; replace HW := Lib.hid (hstep HW hb1); clear hb1; have m1 : True := trivial))
  go_wp2_with fail
  exact bodyPost_ret (v := .complex .f64 4591870180066957722 4604480259023595110) (by simp [results, Try.results44, go_sem]) rfl ⟨rfl, HW.out⟩
end Go.Proofs.Ytdpjknjlhchmcaa

namespace Go.Proofs.Ytdpjknjlhchmcaa
open Go.RowKit Pl
set_option linter.unusedVariables false
set_option linter.unusedSimpArgs false
theorem of_to (a b d : Int) (w : World) (ha : -9223372036854775808 ≤ a ∧ a ≤ 9223372036854775807) (hb : -9223372036854775808 ≤ b ∧ b ≤ 9223372036854775807) (hd : -9223372036854775808 ≤ d ∧ d ≤ 9223372036854775807) {q : Cx} (h : ofv a b d = q) :
    Calls Try.prog 24 #[.agg #[.int .i64 a, .int .i64 b, .int .i64 d]] w (RetNum w q) := h ▸ of_any a b d w ha hb hd
theorem int_to (n : Int) (w : World) (h1 : -9223372036854775808 ≤ n) (h2 : n ≤ 9223372036854775807) {q : Cx} (h : Cx.ofInt n = q) : Calls Try.prog 31 #[.int .i64 n] w (RetNum w q) := h ▸ int_any n w h1 h2
theorem text_to (x : Cx) (A1 A2 A3 : Option Addr) (w : World) (hx : Num3 w A1 A2 A3 x) (hs : sz 274877906944 x) {s : ByteArray} (h : textT x = s) :
    Calls Try.prog 41 #[.agg #[.bool (sn (na x)), .slice A1 (ln (ab (na x))) (ln (ab (na x))), .bool (sn (nb x)), .slice A2 (ln (ab (nb x))) (ln (ab (nb x))), .slice A3 (ln (un x)) (ln (un x))]] w (RetStr w s) := h ▸ text_any x A1 A2 A3 w hx hs
theorem norm_to (x : Cx) (A1 A2 A3 : Option Addr) (w : World) (hx : Num3 w A1 A2 A3 x) (hs : sz 137438953472 x) {q : Cx} (h : x.norm = q) :
    Calls Try.prog 42 #[.agg #[.bool (sn (na x)), .slice A1 (ln (ab (na x))) (ln (ab (na x))), .bool (sn (nb x)), .slice A2 (ln (ab (nb x))) (ln (ab (nb x))), .slice A3 (ln (un x)) (ln (un x))]] w (RetNum w q) := h ▸ norm_num x A1 A2 A3 w hx hs
theorem divx_to (x y : Cx) (A1 A2 A3 B1 B2 B3 : Option Addr) (w : World) (hx : Num3 w A1 A2 A3 x) (hy : Num3 w B1 B2 B3 y) (hsx : sz 137438953472 x) (hsy : sz 137438953472 y) (h0 : y ≠ Cx.zero) {q : Cx} (h : x.div y = q) :
    Calls Try.prog 40 #[.agg #[.bool (sn (na x)), .slice A1 (ln (ab (na x))) (ln (ab (na x))), .bool (sn (nb x)), .slice A2 (ln (ab (nb x))) (ln (ab (nb x))), .slice A3 (ln (un x)) (ln (un x))], .agg #[.bool (sn (na y)), .slice B1 (ln (ab (na y))) (ln (ab (na y))), .bool (sn (nb y)), .slice B2 (ln (ab (nb y))) (ln (ab (nb y))), .slice B3 (ln (un y)) (ln (un y))]] w (RetNumE w 0 q) := h ▸ div_num0 x y A1 A2 A3 B1 B2 B3 w hx hy hsx hsy h0
theorem det_to (w : World) (b g0 g1 k0 k1 c : Nat) (q00 q01 q10 q11 : Cx) (A1 A2 A3 B1 B2 B3 C1 C2 C3 E1 E2 E3 : Option Addr) (m0 : w.cell? ⟨b, 0, none⟩ = some (.slice (some ⟨g0, 0, none⟩) 2 k0)) (m1 : w.cell? ⟨b, 1, none⟩ = some (.slice (some ⟨g1, 0, none⟩) 2 k1)) (hb : b < w.heap.size) (V00 : VarAt w g0 q00 A1 A2 A3) (V01 : At5 w g0 q01 B1 B2 B3) (V10 : VarAt w g1 q10 C1 C2 C3) (V11 : At5 w g1 q11 E1 E2 E3) (z00 : sz 2 q00) (z01 : sz 2 q01) (z10 : sz 2 q10) (z11 : sz 2 q11) (h00 : q00 ≠ Cx.zero) (h11 : (q11.sub ((q10.div q00).mul q01)) ≠ Cx.zero) {q : Cx} (h : q00.mul (q11.sub ((q10.div q00).mul q01)) = q) :
    Calls Try.prog 9 #[.slice (some ⟨b, 0, none⟩) 2 c] w (RetNumE w 0 q) := h ▸ det2 w b g0 g1 k0 k1 c q00 q01 q10 q11 A1 A2 A3 B1 B2 B3 C1 C2 C3 E1 E2 E3 m0 m1 hb V00 V01 V10 V11 z00 z01 z10 z11 h00 h11
set_option maxRecDepth 100000 in
set_option maxHeartbeats 4000000 in
theorem awake0 (w : World) (xa xb xq xi x1 x2 x3 xd xn : Cx) (ha : ofv 1 2 0 = xa) (hb : ofv 3 (-1) 0 = xb) (hb0 : xb ≠ Cx.zero) (hq : xa.div xb = xq) (hi : ofv 0 1 0 = xi) (h1 : Cx.ofInt 1 = x1) (h2 : Cx.ofInt 2 = x2) (h3 : Cx.ofInt 3 = x3) (h10 : x1 ≠ Cx.zero) (hu : x3.sub ((x2.div x1).mul xi) ≠ Cx.zero) (hd : x1.mul (x3.sub ((x2.div x1).mul xi)) = xd) (hn : xq.norm = xn) (tq : textT xq = ⟨#[49, 47, 49, 48, 43, 55, 47, 49, 48, 105]⟩) (tn : textT xn = ⟨#[49, 47, 50]⟩) (td : textT xd = ⟨#[51, 45, 50, 105]⟩) (n1 : na xq = 1) (n2 : nb xq = 7) (n3 : nd xq = 10) (za : sz 2 xa) (zb : sz 2 xb) (zq : sz 100 xq) (zi : sz 2 xi) (z1 : sz 2 x1) (z2 : sz 2 x2) (z3 : sz 2 x3) (zd : sz 100 xd) (zn : sz 100 xn) :
    Calls Try.prog 13 #[] w (RetBool w true) := by
  have K : Hid (ofv 1 2 0 = xa ∧ ofv 3 (-1) 0 = xb ∧ xa.div xb = xq ∧ ofv 0 1 0 = xi ∧ Cx.ofInt 1 = x1 ∧ Cx.ofInt 2 = x2 ∧ Cx.ofInt 3 = x3 ∧ x1.mul (x3.sub ((x2.div x1).mul xi)) = xd ∧ xq.norm = xn ∧ textT xq = ⟨#[49, 47, 49, 48, 43, 55, 47, 49, 48, 105]⟩ ∧ textT xn = ⟨#[49, 47, 50]⟩ ∧ textT xd = ⟨#[51, 45, 50, 105]⟩) := Lib.hid ⟨ha, hb, hq, hi, h1, h2, h3, hd, hn, tq, tn, td⟩
  have N : Hid (na xq = 1 ∧ nb xq = 7 ∧ nd xq = 10) := Lib.hid ⟨n1, n2, n3⟩
  have Z : Hid (xb ≠ Cx.zero ∧ x1 ≠ Cx.zero ∧ x3.sub ((x2.div x1).mul xi) ≠ Cx.zero) := Lib.hid ⟨hb0, h10, hu⟩
  clear ha hb hb0 hq hi h1 h2 h3 h10 hu hd hn tq tn td n1 n2 n3
  have HW : Hid (Below w.heap.size w w) := Lib.hid (Below.refl _ _)
  have s1 : ∀ w, (binOp .eql 9 (.string ⟨#[49, 47, 49, 48, 43, 55, 47, 49, 48, 105]⟩) (.string ⟨#[49, 47, 49, 48, 43, 55, 47, 49, 48, 105]⟩)).run Try.prog w = .ok (.bool true) w := fun w => by kernel_rfl
  have s2 : ∀ w, (binOp .eql 9 (.string ⟨#[49, 47, 50]⟩) (.string ⟨#[49, 47, 50]⟩)).run Try.prog w = .ok (.bool true) w := fun w => by kernel_rfl
  have s3 : ∀ w, (binOp .eql 9 (.string ⟨#[51, 45, 50, 105]⟩) (.string ⟨#[51, 45, 50, 105]⟩)).run Try.prog w = .ok (.bool true) w := fun w => by kernel_rfl
  have fb := f64bits
  have gb : ∀ w : World, (callFunc 43 #[.float .f64 4591870180066957722]).run Try.prog w = .ok (.value (.int .u64 4591870180066957722)) w := fun w => f64bits 4591870180066957722 w
  go_enter Try.func13, Try.ntmps13
  go_wp2_with fail
  refine (of_to 1 2 0 _ (by omega) (by omega) (by omega) K.out.1).mono ?_
  rintro e w1 ⟨A1, A2, A3, rfl, ya, hb1⟩
  replace HW := Lib.hid (hstep HW hb1); clear hb1
  go_wp2_with fail
  refine (of_to 3 (-1) 0 _ (by omega) (by omega) (by omega) K.out.2.1).mono ?_
  rintro e w2 ⟨B1, B2, B3, rfl, yb, hb2⟩
  replace ya := ya.to hb2; replace HW := Lib.hid (hstep HW hb2); clear hb2
  go_wp2_with fail
  refine (divx_to xa xb A1 A2 A3 B1 B2 B3 _ (by exact ya) (by exact yb) (za.mono (by decide)) (zb.mono (by decide)) Z.out.1 K.out.2.2.1).mono ?_
  rintro e w3 ⟨Q1, Q2, Q3, rfl, yq, hb3⟩
  replace ya := ya.to hb3; replace yb := yb.to hb3; replace HW := Lib.hid (hstep HW hb3); clear hb3
  go_wp2_with fail
  clear ya yb
  obtain ⟨X1, hX1⟩ : ∃ X : World, X = w3.alloc (.cells #[.bool (sn (na xq)), .slice Q1 (ln (ab (na xq))) (ln (ab (na xq))), .bool (sn (nb xq)), .slice Q2 (ln (ab (nb xq))) (ln (ab (nb xq))), .slice Q3 (ln (un xq)) (ln (un xq))] 34) := ⟨_, rfl⟩
  rw [← hX1]
  have bX1 : Below w3.heap.size w3 X1 := by rw [hX1]; exact (Below.refl _ _).alloc (Nat.le_refl _) _
  have Vq : VarAt X1 w3.heap.size xq Q1 Q2 Q3 := ⟨by rw [hX1]; simp, ⟨by subst hX1; go_simp, by subst hX1; go_simp, by subst hX1; go_simp, by subst hX1; go_simp, by subst hX1; go_simp⟩, yq.to bX1⟩
  clear hX1
  replace yq := yq.to bX1; replace HW := Lib.hid (hstep HW bX1); clear bX1
  clear yq
  generalize w3.heap.size = gq at *
  refine (int_to 1 _ (by omega) (by omega) K.out.2.2.2.2.1).mono ?_
  rintro e w4 ⟨C1, C2, C3, rfl, y1, hb4⟩
  replace Vq := Vq.to hb4; replace HW := Lib.hid (hstep HW hb4); clear hb4
  go_wp2_with fail
  refine (of_to 0 1 0 _ (by omega) (by omega) (by omega) K.out.2.2.2.1).mono ?_
  rintro e w5 ⟨I1, I2, I3, rfl, yi, hb5⟩
  replace Vq := Vq.to hb5; replace y1 := y1.to hb5; replace HW := Lib.hid (hstep HW hb5); clear hb5
  go_wp2_with fail
  obtain ⟨X2, hX2⟩ : ∃ X : World, X = w5.alloc (.cells #[.bool (sn (na x1)), .slice C1 (ln (ab (na x1))) (ln (ab (na x1))), .bool (sn (nb x1)), .slice C2 (ln (ab (nb x1))) (ln (ab (nb x1))), .slice C3 (ln (un x1)) (ln (un x1)), .bool (sn (na xi)), .slice I1 (ln (ab (na xi))) (ln (ab (na xi))), .bool (sn (nb xi)), .slice I2 (ln (ab (nb xi))) (ln (ab (nb xi))), .slice I3 (ln (un xi)) (ln (un xi))] 34) := ⟨_, rfl⟩
  rw [← hX2]
  have bX2 : Below w5.heap.size w5 X2 := by rw [hX2]; exact (Below.refl _ _).alloc (Nat.le_refl _) _
  have R00 : VarAt X2 w5.heap.size x1 C1 C2 C3 := ⟨by rw [hX2]; simp, ⟨by subst hX2; go_simp, by subst hX2; go_simp, by subst hX2; go_simp, by subst hX2; go_simp, by subst hX2; go_simp⟩, y1.to bX2⟩
  have R01 : At5 X2 w5.heap.size xi I1 I2 I3 := ⟨by rw [hX2]; simp, ⟨by subst hX2; go_simp, by subst hX2; go_simp, by subst hX2; go_simp, by subst hX2; go_simp, by subst hX2; go_simp⟩, yi.to bX2⟩
  clear hX2
  replace Vq := Vq.to bX2; replace y1 := y1.to bX2; replace yi := yi.to bX2; replace HW := Lib.hid (hstep HW bX2); clear bX2
  clear y1 yi
  generalize w5.heap.size = g0 at *
  refine (int_to 2 _ (by omega) (by omega) K.out.2.2.2.2.2.1).mono ?_
  rintro e w6 ⟨E1, E2, E3, rfl, y2, hb6⟩
  replace Vq := Vq.to hb6; replace R00 := R00.to hb6; replace R01 := R01.to hb6; replace HW := Lib.hid (hstep HW hb6); clear hb6
  go_wp2_with fail
  refine (int_to 3 _ (by omega) (by omega) K.out.2.2.2.2.2.2.1).mono ?_
  rintro e w7 ⟨F1, F2, F3, rfl, y3, hb7⟩
  replace Vq := Vq.to hb7; replace R00 := R00.to hb7; replace R01 := R01.to hb7; replace y2 := y2.to hb7; replace HW := Lib.hid (hstep HW hb7); clear hb7
  go_wp2_with fail
  obtain ⟨X3, hX3⟩ : ∃ X : World, X = w7.alloc (.cells #[.bool (sn (na x2)), .slice E1 (ln (ab (na x2))) (ln (ab (na x2))), .bool (sn (nb x2)), .slice E2 (ln (ab (nb x2))) (ln (ab (nb x2))), .slice E3 (ln (un x2)) (ln (un x2)), .bool (sn (na x3)), .slice F1 (ln (ab (na x3))) (ln (ab (na x3))), .bool (sn (nb x3)), .slice F2 (ln (ab (nb x3))) (ln (ab (nb x3))), .slice F3 (ln (un x3)) (ln (un x3))] 34) := ⟨_, rfl⟩
  rw [← hX3]
  have bX3 : Below w7.heap.size w7 X3 := by rw [hX3]; exact (Below.refl _ _).alloc (Nat.le_refl _) _
  have R10 : VarAt X3 w7.heap.size x2 E1 E2 E3 := ⟨by rw [hX3]; simp, ⟨by subst hX3; go_simp, by subst hX3; go_simp, by subst hX3; go_simp, by subst hX3; go_simp, by subst hX3; go_simp⟩, y2.to bX3⟩
  have R11 : At5 X3 w7.heap.size x3 F1 F2 F3 := ⟨by rw [hX3]; simp, ⟨by subst hX3; go_simp, by subst hX3; go_simp, by subst hX3; go_simp, by subst hX3; go_simp, by subst hX3; go_simp⟩, y3.to bX3⟩
  have hz3 : X3.heap.size = w7.heap.size + 1 := by rw [hX3]; simp
  clear hX3
  replace Vq := Vq.to bX3; replace R00 := R00.to bX3; replace R01 := R01.to bX3; replace y2 := y2.to bX3; replace y3 := y3.to bX3; replace HW := Lib.hid (hstep HW bX3); clear bX3
  clear y2 y3
  obtain ⟨X4, hX4⟩ : ∃ X : World, X = X3.alloc (.cells #[.slice (some ⟨g0, 0, none⟩) 2 2, .slice (some ⟨w7.heap.size, 0, none⟩) 2 2] 42) := ⟨_, rfl⟩
  rw [← hX4]
  have bX4 : Below X3.heap.size X3 X4 := by rw [hX4]; exact (Below.refl _ _).alloc (Nat.le_refl _) _
  have m0 : X4.cell? ⟨w7.heap.size + 1, 0, none⟩ = some (.slice (some ⟨g0, 0, none⟩) 2 2) := by rw [← hz3, hX4]; go_simp
  have m1 : X4.cell? ⟨w7.heap.size + 1, 1, none⟩ = some (.slice (some ⟨w7.heap.size, 0, none⟩) 2 2) := by rw [← hz3, hX4]; go_simp
  have hb4 : w7.heap.size + 1 < X4.heap.size := by rw [hX4, ← hz3]; simp
  clear hX4
  replace Vq := Vq.to bX4; replace R00 := R00.to bX4; replace R01 := R01.to bX4; replace R10 := R10.to bX4; replace R11 := R11.to bX4; replace HW := Lib.hid (hstep HW bX4); clear bX4
  refine (det_to _ (w7.heap.size + 1) g0 w7.heap.size 2 2 2 x1 xi x2 x3 C1 C2 C3 I1 I2 I3 E1 E2 E3 F1 F2 F3 m0 m1 hb4 R00 R01 R10 R11 z1 zi z2 z3 Z.out.2.1 Z.out.2.2 K.out.2.2.2.2.2.2.2.1).mono ?_
  rintro e w8 ⟨D1, D2, D3, rfl, yd, hb8⟩
  replace Vq := Vq.to hb8; replace R00 := R00.to hb8; replace R01 := R01.to hb8; replace R10 := R10.to hb8; replace R11 := R11.to hb8; replace HW := Lib.hid (hstep HW hb8); clear hb8
  clear R00 R01 R10 R11 m0 m1 hb4 hz3
  go_upto_region 4 with fail
  obtain ⟨X5, hX5⟩ : ∃ X : World, X = w8.alloc (.cells #[.bool (sn (na xd)), .slice D1 (ln (ab (na xd))) (ln (ab (na xd))), .bool (sn (nb xd)), .slice D2 (ln (ab (nb xd))) (ln (ab (nb xd))), .slice D3 (ln (un xd)) (ln (un xd))] 34) := ⟨_, rfl⟩
  rw [← hX5]
  have bX5 : Below w8.heap.size w8 X5 := by rw [hX5]; exact (Below.refl _ _).alloc (Nat.le_refl _) _
  have Vd : VarAt X5 w8.heap.size xd D1 D2 D3 := ⟨by rw [hX5]; simp, ⟨by subst hX5; go_simp, by subst hX5; go_simp, by subst hX5; go_simp, by subst hX5; go_simp, by subst hX5; go_simp⟩, yd.to bX5⟩
  clear hX5
  replace Vq := Vq.to bX5; replace yd := yd.to bX5; replace HW := Lib.hid (hstep HW bX5); clear bX5
  clear yd
  generalize w8.heap.size = gd at *
  obtain ⟨tq0, tq1, tq2, tq3, tq4⟩ := Vq.2.1
  obtain ⟨td0, td1, td2, td3, td4⟩ := Vd.2.1
  go_wp2_with fail
  refine (text_to xq Q1 Q2 Q3 _ (by exact Vq.2.2) (zq.mono (by decide)) K.out.2.2.2.2.2.2.2.2.2.1).mono ?_
  rintro e w9 ⟨rfl, hb9⟩
  replace Vq := Vq.to hb9; replace Vd := Vd.to hb9; replace HW := Lib.hid (hstep HW hb9); clear hb9
  clear tq0 tq1 tq2 tq3 tq4 td0 td1 td2 td3 td4
  obtain ⟨tq0, tq1, tq2, tq3, tq4⟩ := Vq.2.1
  obtain ⟨td0, td1, td2, td3, td4⟩ := Vd.2.1
  go_wp2_with fail
  refine (norm_to xq Q1 Q2 Q3 _ (by exact Vq.2.2) (zq.mono (by decide)) K.out.2.2.2.2.2.2.2.2.1).mono ?_
  rintro e w10 ⟨N1, N2, N3, rfl, yn, hb10⟩
  replace Vq := Vq.to hb10; replace Vd := Vd.to hb10; replace HW := Lib.hid (hstep HW hb10); clear hb10
  clear tq0 tq1 tq2 tq3 tq4 td0 td1 td2 td3 td4
  obtain ⟨tq0, tq1, tq2, tq3, tq4⟩ := Vq.2.1
  obtain ⟨td0, td1, td2, td3, td4⟩ := Vd.2.1
  go_wp2_with fail
  refine (text_to xn N1 N2 N3 _ (by exact yn) (zn.mono (by decide)) K.out.2.2.2.2.2.2.2.2.2.2.1).mono ?_
  rintro e w11 ⟨rfl, hb11⟩
  replace Vq := Vq.to hb11; replace Vd := Vd.to hb11; replace yn := yn.to hb11; replace HW := Lib.hid (hstep HW hb11); clear hb11
  clear tq0 tq1 tq2 tq3 tq4 td0 td1 td2 td3 td4
  obtain ⟨tq0, tq1, tq2, tq3, tq4⟩ := Vq.2.1
  obtain ⟨td0, td1, td2, td3, td4⟩ := Vd.2.1
  go_wp2_with fail
  clear yn
  refine (text_to xd D1 D2 D3 _ (by exact Vd.2.2) (zd.mono (by decide)) K.out.2.2.2.2.2.2.2.2.2.2.2).mono ?_
  rintro e w12 ⟨rfl, hb12⟩
  replace Vq := Vq.to hb12; replace Vd := Vd.to hb12; replace HW := Lib.hid (hstep HW hb12); clear hb12
  clear tq0 tq1 tq2 tq3 tq4 td0 td1 td2 td3 td4
  obtain ⟨tq0, tq1, tq2, tq3, tq4⟩ := Vq.2.1
  obtain ⟨td0, td1, td2, td3, td4⟩ := Vd.2.1
  go_wp2_with fail
  refine (near_a xq Q1 Q2 Q3 _ N.out.1 N.out.2.1 N.out.2.2 (by exact Vq.2.2)).mono ?_
  rintro e w13 ⟨rfl, hb13⟩
  replace Vq := Vq.to hb13; replace Vd := Vd.to hb13; replace HW := Lib.hid (hstep HW hb13); clear hb13
  clear tq0 tq1 tq2 tq3 tq4 td0 td1 td2 td3 td4
  obtain ⟨tq0, tq1, tq2, tq3, tq4⟩ := Vq.2.1
  obtain ⟨td0, td1, td2, td3, td4⟩ := Vd.2.1
  go_wp2_with fail
  exact bodyPost_ret (v := .bool true) (by simp [results, Try.results13, go_sem]) rfl ⟨rfl, HW.out⟩
end Go.Proofs.Ytdpjknjlhchmcaa

namespace Go.Proofs.Ytdpjknjlhchmcaa
open Go.RowKit Pl
set_option linter.unusedVariables false
set_option linter.unusedSimpArgs false
theorem rep_of {a b : Int} {d : Nat} {z : Cx} (hd : 0 < d) (hg : Nat.gcd (Nat.gcd a.natAbs b.natAbs) d = 1) (h1 : (a : Rat) = z.re * (d : Rat)) (h2 : (b : Rat) = z.im * (d : Rat)) : na z = a ∧ nb z = b ∧ nd z = d := of_rep ⟨hd, hg, h1, h2⟩
theorem sz_rep {a b : Int} {d K : Nat} {z : Cx} (h : na z = a ∧ nb z = b ∧ nd z = d) (ha : ln (ab a) ≤ K) (hb : ln (ab b) ≤ K) (hd : ln d ≤ K) : sz K z := ⟨by rw [h.1]; exact ha, by rw [h.2.1]; exact hb, by rw [h.2.2]; exact hd⟩
def ca : Cx := ⟨1, 2⟩
def cb : Cx := ⟨3, -1⟩
def cq : Cx := ⟨1 / 10, 7 / 10⟩
def ci : Cx := ⟨0, 1⟩
def cd : Cx := ⟨3, -2⟩
def cn : Cx := ⟨1 / 2, 0⟩
theorem ca_eq : ofv 1 2 0 = ca := by unfold ofv frz ca; simp; grind
theorem cb_eq : ofv 3 (-1) 0 = cb := by unfold ofv frz cb; simp; grind
theorem ci_eq : ofv 0 1 0 = ci := by unfold ofv frz ci; simp; grind
theorem cq_eq : ca.div cb = cq := by unfold ca cb cq Cx.div Cx.nrm; simp only [Cx.mk.injEq]; constructor <;> grind
theorem cn_eq : cq.norm = cn := by unfold cq cn Cx.norm Cx.nrm; simp only [Cx.mk.injEq]; constructor <;> grind
theorem cu_eq : (Cx.ofInt 3).sub (((Cx.ofInt 2).div (Cx.ofInt 1)).mul ci) = cd := by
  unfold Cx.ofInt ci cd Cx.div Cx.nrm Cx.mul Cx.sub Cx.add Cx.neg; simp only [Cx.mk.injEq]; constructor <;> simp <;> grind
theorem cd_eq : (Cx.ofInt 1).mul cd = cd := by unfold Cx.ofInt cd Cx.mul; simp only [Cx.mk.injEq]; constructor <;> simp <;> grind
theorem cb_ne : cb ≠ Cx.zero := by unfold cb Cx.zero; intro h; injection h with h1 h2; revert h1; decide
theorem c1_ne : Cx.ofInt 1 ≠ Cx.zero := by unfold Cx.ofInt Cx.zero; intro h; injection h with h1 h2; revert h1; simp
theorem cd_ne : cd ≠ Cx.zero := by unfold cd Cx.zero; intro h; injection h with h1 h2; revert h1; decide
theorem cq_form : na cq = 1 ∧ nb cq = 7 ∧ nd cq = 10 := rep_of (by omega) (by decide) (by unfold cq; simp; grind) (by unfold cq; simp; grind)
theorem cn_form : na cn = 1 ∧ nb cn = 0 ∧ nd cn = 2 := rep_of (by omega) (by decide) (by unfold cn; simp; grind) (by unfold cn; simp)
theorem cd_form : na cd = 3 ∧ nb cd = -2 ∧ nd cd = 1 := rep_of (by omega) (by decide) (by unfold cd; simp) (by unfold cd; simp)
theorem small_ln {n : Nat} (h : n < 4294967296) : ln n ≤ 1 := ln_le (n := n) (k := 1) (by omega)
theorem dec_1 : dec 1 = ⟨#[49]⟩ := by unfold dec; rw [if_neg (by omega), rd_pos (by omega), show 1 / 10 = 0 from rfl, rd_zero]; rfl
theorem dec_2 : dec 2 = ⟨#[50]⟩ := by unfold dec; rw [if_neg (by omega), rd_pos (by omega), show 2 / 10 = 0 from rfl, rd_zero]; rfl
theorem dec_3 : dec 3 = ⟨#[51]⟩ := by unfold dec; rw [if_neg (by omega), rd_pos (by omega), show 3 / 10 = 0 from rfl, rd_zero]; rfl
theorem dec_7 : dec 7 = ⟨#[55]⟩ := by unfold dec; rw [if_neg (by omega), rd_pos (by omega), show 7 / 10 = 0 from rfl, rd_zero]; rfl
theorem dec_10 : dec 10 = ⟨#[49, 48]⟩ := by unfold dec; rw [if_neg (by omega), rd_pos (by omega), show 10 / 10 = 1 from rfl, rd_pos (by omega), show 1 / 10 = 0 from rfl, rd_zero]; rfl
theorem fr_at {a : Int} {d : Nat} (hd : 0 < d) (hg : Nat.gcd (Nat.gcd a.natAbs 0) d = 1) : na (fr a 0 d) = a ∧ nb (fr a 0 d) = 0 ∧ nd (fr a 0 d) = d := rep_of hd (by simpa using hg) (by unfold fr; have := rat_ne hd; simp only []; grind) (by unfold fr; simp; grind)
theorem part_lit {a : Int} {d : Nat} {s : ByteArray} (hd : 0 < d) (hg : Nat.gcd (Nat.gcd a.natAbs 0) d = 1) (h : (if d = 1 then (if sn a = true then ⟨#[45]⟩ ++ dec (ab a) else dec (ab a)) else (if sn a = true then ⟨#[45]⟩ ++ dec (ab a) else dec (ab a)) ++ (⟨#[47]⟩ ++ dec d)) = s) : partT (fr a 0 d) = s := by
  obtain ⟨h1, h2, h3⟩ := fr_at hd hg
  unfold partT sgT un
  rw [h1, h3]
  by_cases c : d = 1
  · simp only [c, if_true] at *; exact h
  · simp only [c, if_false] at *; rw [if_neg (by omega)]; exact h
theorem tq_eq : textT cq = ⟨#[49, 47, 49, 48, 43, 55, 47, 49, 48, 105]⟩ := by
  obtain ⟨h1, h2, h3⟩ := cq_form
  unfold textT imT
  rw [h1, h2, h3, part_lit (a := 1) (d := 10) (s := ⟨#[49, 47, 49, 48]⟩) (by omega) (by decide) (by simp [sn, ab, dec_1, dec_10]; rfl), part_lit (a := 7) (d := 10) (s := ⟨#[55, 47, 49, 48]⟩) (by omega) (by decide) (by simp [sn, ab, dec_7, dec_10]; rfl)]
  simp [sn]
  rfl
theorem tn_eq : textT cn = ⟨#[49, 47, 50]⟩ := by
  obtain ⟨h1, h2, h3⟩ := cn_form
  unfold textT
  rw [h1, h2, h3, part_lit (a := 1) (d := 2) (s := ⟨#[49, 47, 50]⟩) (by omega) (by decide) (by simp [sn, ab, dec_1, dec_2]; rfl)]
  rfl
theorem td_eq : textT cd = ⟨#[51, 45, 50, 105]⟩ := by
  obtain ⟨h1, h2, h3⟩ := cd_form
  unfold textT imT
  rw [h1, h2, h3, part_lit (a := 3) (d := 1) (s := ⟨#[51]⟩) (by omega) (by decide) (by simp [sn, ab, dec_3]), part_lit (a := -2) (d := 1) (s := ⟨#[45, 50]⟩) (by omega) (by decide) (by simp [sn, ab, dec_2]; rfl)]
  simp [sn]
  rfl
/-- 'awake' answers true. -/
theorem awake_any (w : World) : Calls Try.prog 13 #[] w (RetBool w true) :=
  awake0 w ca cb cq ci (Cx.ofInt 1) (Cx.ofInt 2) (Cx.ofInt 3) cd cn ca_eq cb_eq cb_ne cq_eq ci_eq rfl rfl rfl c1_ne (by rw [cu_eq]; exact cd_ne) (by rw [cu_eq]; exact cd_eq) cn_eq tq_eq tn_eq td_eq cq_form.1 cq_form.2.1 cq_form.2.2
    (by rw [← ca_eq]; exact sz_of (by omega) (by omega) (by omega)) (by rw [← cb_eq]; exact sz_of (by omega) (by omega) (by omega))
    (sz_rep cq_form (Nat.le_trans (small_ln (by decide)) (by omega)) (Nat.le_trans (small_ln (by decide)) (by omega)) (Nat.le_trans (small_ln (by decide)) (by omega)))
    (by rw [← ci_eq]; exact sz_of (by omega) (by omega) (by omega))
    (sz_int (Nat.le_trans (small_ln (by decide)) (by omega)) (by omega)) (sz_int (Nat.le_trans (small_ln (by decide)) (by omega)) (by omega)) (sz_int (Nat.le_trans (small_ln (by decide)) (by omega)) (by omega))
    (sz_rep cd_form (Nat.le_trans (small_ln (by decide)) (by omega)) (Nat.le_trans (small_ln (by decide)) (by omega)) (Nat.le_trans (small_ln (by decide)) (by omega)))
    (sz_rep cn_form (Nat.le_trans (small_ln (by decide)) (by omega)) (Nat.le_trans (small_ln (by decide)) (by omega)) (Nat.le_trans (small_ln (by decide)) (by omega)))
end Go.Proofs.Ytdpjknjlhchmcaa
