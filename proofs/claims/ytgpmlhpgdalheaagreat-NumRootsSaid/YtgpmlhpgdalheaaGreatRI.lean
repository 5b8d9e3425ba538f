/- The reference: Whole and New. The reference: half and Text. The reference: Text. The law's Is. -/
import Derived.Test.YtgpmlhpgdalheaaGreatRF
import Derived.Test.YtgpmlhpgdalheaaGreatNew
import Derived.Test.YtgpmlhpgdalheaaGreatRA
import Derived.Test.YtgpmlhpgdalheaaGreatText
import Derived.Test.YtgpmlhpgdalheaaGreatAwakeF
namespace Go.Proofs.YtgpmlhpgdalheaaGreat
open Go.RowKit Pl
set_option linter.unusedVariables false
set_option linter.unusedSimpArgs false

/-- A call of the reference hands back a number and an error's code. -/
def RetNumCE (w : World) (k : Int) (q : Cx) (e : Ending) (w' : World) : Prop := ∃ A1 A2 A3 c1 c2 c3, e = .returned (.tuple #[.agg #[.bool (sn (na q)), .slice A1 (ln (ab (na q))) c1, .bool (sn (nb q)), .slice A2 (ln (ab (nb q))) c2, .slice A3 (ln (nd q)) c3], .int .i64 k]) ∧ Num3C w' A1 A2 A3 q ∧ Below w.heap.size w w'

theorem retNumCE_fin {w W : World} {q : Cx} {A1 A2 A3 : Option Addr} {R d1 d2 d3 : Nat} {c : Bool} {k : Int} (hB : Hid (Below w.heap.size w W)) (h1 : Num3C W A1 A2 A3 q) (hR : w.heap.size ≤ R) (r0 : W.cell? ⟨R, 0, none⟩ = some (.bool c)) :
    RetNumCE w k q (.returned (.tuple #[.agg #[.bool (sn (na q)), .slice A1 (ln (ab (na q))) d1, .bool (sn (nb q)), .slice A2 (ln (ab (nb q))) d2, .slice A3 (ln (nd q)) d3], .int .i64 k]))
      (((((W.setCell ⟨R, 0, none⟩ (.bool (sn (na q)))).setCell ⟨R, 1, none⟩ (.slice A1 (ln (ab (na q))) d1)).setCell ⟨R, 2, none⟩ (.bool (sn (nb q)))).setCell ⟨R, 3, none⟩ (.slice A2 (ln (ab (nb q))) d2)).setCell ⟨R, 4, none⟩ (.slice A3 (ln (nd q)) d3)) := by
  obtain ⟨B1, B2, B3, e1, e2, e3, e, h⟩ := retNumC_fin (A1 := A1) (A2 := A2) (A3 := A3) (d1 := d1) (d2 := d2) (d3 := d3) hB h1 hR r0
  exact ⟨B1, B2, B3, e1, e2, e3, ret_and e, h⟩

set_option maxHeartbeats 4000000 in
theorem rwhole_any (n : Int) (w : World) (h1 : -9223372036854775808 ≤ n) (h2 : n ≤ 9223372036854775807) :
    Calls Tryz.prog 86 #[.int .i64 n] w (RetNumC w (Cx.ofInt n)) := by
  have B1 := Lib.hid h1
  have B2 := Lib.hid h2
  clear h1 h2
  have E := Lib.hid (ofInt_form n)
  go_enter Tryz.func86, Tryz.ntmps86
  go_wp2_with fail
  obtain ⟨W, hW⟩ : ∃ W : World, W = (w.alloc (.cells #[.bool false, .slice none 0 0, .bool false, .slice none 0 0, .slice none 0 0] 34)) := ⟨_, rfl⟩
  have r0 : W.cell? ⟨w.heap.size, 0, none⟩ = some (.bool false) := by subst hW; go_simp
  have f0 : W.frozen? ⟨w.heap.size, 0, none⟩ = false := by subst hW; go_simp
  have r1 : W.cell? ⟨w.heap.size, 1, none⟩ = some (.slice none 0 0) := by subst hW; go_simp
  have f1 : W.frozen? ⟨w.heap.size, 1, none⟩ = false := by subst hW; go_simp
  have r2 : W.cell? ⟨w.heap.size, 2, none⟩ = some (.bool false) := by subst hW; go_simp
  have f2 : W.frozen? ⟨w.heap.size, 2, none⟩ = false := by subst hW; go_simp
  have r3 : W.cell? ⟨w.heap.size, 3, none⟩ = some (.slice none 0 0) := by subst hW; go_simp
  have f3 : W.frozen? ⟨w.heap.size, 3, none⟩ = false := by subst hW; go_simp
  have r4 : W.cell? ⟨w.heap.size, 4, none⟩ = some (.slice none 0 0) := by subst hW; go_simp
  have f4 : W.frozen? ⟨w.heap.size, 4, none⟩ = false := by subst hW; go_simp
  have HW : Below w.heap.size w W := by subst hW; exact ((Below.refl w.heap.size w).alloc (Nat.le_refl _) _)
  have l0 : w.heap.size < W.heap.size := by subst hW; simp
  rw [← hW]
  clear hW
  replace HW := Lib.hid HW
  refine (rintOf_any n _ B1.out B2.out).mono ?_
  rintro e w1 ⟨A1, c1, rfl, h1, hb1⟩
  replace r0 := keepc hb1 r0 l0
  replace f0 := keepf hb1 f0 l0
  replace r1 := keepc hb1 r1 l0
  replace f1 := keepf hb1 f1 l0
  replace r2 := keepc hb1 r2 l0
  replace f2 := keepf hb1 f2 l0
  replace r3 := keepc hb1 r3 l0
  replace f3 := keepf hb1 f3 l0
  replace r4 := keepc hb1 r4 l0
  replace f4 := keepf hb1 f4 l0
  replace l0 := Nat.lt_of_lt_of_le l0 hb1.size
  replace HW := Lib.hid (hstep HW hb1)
  clear hb1
  go_wp2_with fail
  obtain ⟨X, hX⟩ : ∃ X : World, X = (((((w1.setCell ⟨w.heap.size, 0, none⟩ (.bool (sn n))).setCell ⟨w.heap.size, 1, none⟩ (.slice A1 (ln (ab n)) c1)).setCell ⟨w.heap.size, 2, none⟩ (.bool false)).setCell ⟨w.heap.size, 3, none⟩ (.slice none 0 0)).setCell ⟨w.heap.size, 4, none⟩ (.slice (some ⟨w1.heap.size, 0, none⟩) 1 1)) := ⟨_, rfl⟩
  rw [← hX]
  have z0 : X.heap.size = w1.heap.size := by rw [hX]; simp [World.setCell]
  have nb : ∀ (b : Bool) k m, Value.bool b ≠ .int k m := by intro b k m e; cases e
  have ns : ∀ (a : Option Addr) (n c : Nat) k m, Value.slice a n c ≠ .int k m := by intro a n c k m e; cases e
  have y0 : X.cell? ⟨w.heap.size, 0, none⟩ = some (.bool (sn n)) := by rw [hX]; exact (keepo (R := w.heap.size) (j := 4) (u := .slice (some ⟨w1.heap.size, 0, none⟩) 1 1) (keepo (R := w.heap.size) (j := 3) (u := .slice none 0 0) (keepo (R := w.heap.size) (j := 2) (u := .bool false) (keepo (R := w.heap.size) (j := 1) (u := .slice A1 (ln (ab n)) c1) (cell_self (u := .bool (sn n)) r0) (by simp)) (by simp)) (by simp)) (by simp))
  have v0 : X.frozen? ⟨w.heap.size, 0, none⟩ = false := by rw [hX]; exact (keepof (R := w.heap.size) (j := 4) (u := .slice (some ⟨w1.heap.size, 0, none⟩) 1 1) (keepof (R := w.heap.size) (j := 3) (u := .slice none 0 0) (keepof (R := w.heap.size) (j := 2) (u := .bool false) (keepof (R := w.heap.size) (j := 1) (u := .slice A1 (ln (ab n)) c1) (keepof (R := w.heap.size) (j := 0) (u := .bool (sn n)) f0)))))
  have y1 : X.cell? ⟨w.heap.size, 1, none⟩ = some (.slice A1 (ln (ab n)) c1) := by rw [hX]; exact (keepo (R := w.heap.size) (j := 4) (u := .slice (some ⟨w1.heap.size, 0, none⟩) 1 1) (keepo (R := w.heap.size) (j := 3) (u := .slice none 0 0) (keepo (R := w.heap.size) (j := 2) (u := .bool false) (cell_self (u := .slice A1 (ln (ab n)) c1) (keepo (R := w.heap.size) (j := 0) (u := .bool (sn n)) r1 (by simp))) (by simp)) (by simp)) (by simp))
  have v1 : X.frozen? ⟨w.heap.size, 1, none⟩ = false := by rw [hX]; exact (keepof (R := w.heap.size) (j := 4) (u := .slice (some ⟨w1.heap.size, 0, none⟩) 1 1) (keepof (R := w.heap.size) (j := 3) (u := .slice none 0 0) (keepof (R := w.heap.size) (j := 2) (u := .bool false) (keepof (R := w.heap.size) (j := 1) (u := .slice A1 (ln (ab n)) c1) (keepof (R := w.heap.size) (j := 0) (u := .bool (sn n)) f1)))))
  have y2 : X.cell? ⟨w.heap.size, 2, none⟩ = some (.bool false) := by rw [hX]; exact (keepo (R := w.heap.size) (j := 4) (u := .slice (some ⟨w1.heap.size, 0, none⟩) 1 1) (keepo (R := w.heap.size) (j := 3) (u := .slice none 0 0) (cell_self (u := .bool false) (keepo (R := w.heap.size) (j := 1) (u := .slice A1 (ln (ab n)) c1) (keepo (R := w.heap.size) (j := 0) (u := .bool (sn n)) r2 (by simp)) (by simp))) (by simp)) (by simp))
  have v2 : X.frozen? ⟨w.heap.size, 2, none⟩ = false := by rw [hX]; exact (keepof (R := w.heap.size) (j := 4) (u := .slice (some ⟨w1.heap.size, 0, none⟩) 1 1) (keepof (R := w.heap.size) (j := 3) (u := .slice none 0 0) (keepof (R := w.heap.size) (j := 2) (u := .bool false) (keepof (R := w.heap.size) (j := 1) (u := .slice A1 (ln (ab n)) c1) (keepof (R := w.heap.size) (j := 0) (u := .bool (sn n)) f2)))))
  have y3 : X.cell? ⟨w.heap.size, 3, none⟩ = some (.slice none 0 0) := by rw [hX]; exact (keepo (R := w.heap.size) (j := 4) (u := .slice (some ⟨w1.heap.size, 0, none⟩) 1 1) (cell_self (u := .slice none 0 0) (keepo (R := w.heap.size) (j := 2) (u := .bool false) (keepo (R := w.heap.size) (j := 1) (u := .slice A1 (ln (ab n)) c1) (keepo (R := w.heap.size) (j := 0) (u := .bool (sn n)) r3 (by simp)) (by simp)) (by simp))) (by simp))
  have v3 : X.frozen? ⟨w.heap.size, 3, none⟩ = false := by rw [hX]; exact (keepof (R := w.heap.size) (j := 4) (u := .slice (some ⟨w1.heap.size, 0, none⟩) 1 1) (keepof (R := w.heap.size) (j := 3) (u := .slice none 0 0) (keepof (R := w.heap.size) (j := 2) (u := .bool false) (keepof (R := w.heap.size) (j := 1) (u := .slice A1 (ln (ab n)) c1) (keepof (R := w.heap.size) (j := 0) (u := .bool (sn n)) f3)))))
  have y4 : X.cell? ⟨w.heap.size, 4, none⟩ = some (.slice (some ⟨w1.heap.size, 0, none⟩) 1 1) := by rw [hX]; exact (cell_self (u := .slice (some ⟨w1.heap.size, 0, none⟩) 1 1) (keepo (R := w.heap.size) (j := 3) (u := .slice none 0 0) (keepo (R := w.heap.size) (j := 2) (u := .bool false) (keepo (R := w.heap.size) (j := 1) (u := .slice A1 (ln (ab n)) c1) (keepo (R := w.heap.size) (j := 0) (u := .bool (sn n)) r4 (by simp)) (by simp)) (by simp)) (by simp)))
  have v4 : X.frozen? ⟨w.heap.size, 4, none⟩ = false := by rw [hX]; exact (keepof (R := w.heap.size) (j := 4) (u := .slice (some ⟨w1.heap.size, 0, none⟩) 1 1) (keepof (R := w.heap.size) (j := 3) (u := .slice none 0 0) (keepof (R := w.heap.size) (j := 2) (u := .bool false) (keepof (R := w.heap.size) (j := 1) (u := .slice A1 (ln (ab n)) c1) (keepof (R := w.heap.size) (j := 0) (u := .bool (sn n)) f4)))))
  have hX1 : Nat32 X A1 (ab n) := by rw [hX]; exact (((((h1.setBox (i := 0) (u := .bool (sn n)) r0 (nb _)).setBox (i := 1) (u := .slice A1 (ln (ab n)) c1) (cell_self (u := .bool (sn n)) r0) (nb _)).setBox (i := 2) (u := .bool false) (keepo (R := w.heap.size) (j := 1) (u := .slice A1 (ln (ab n)) c1) (cell_self (u := .bool (sn n)) r0) (by simp)) (nb _)).setBox (i := 3) (u := .slice none 0 0) (keepo (R := w.heap.size) (j := 2) (u := .bool false) (keepo (R := w.heap.size) (j := 1) (u := .slice A1 (ln (ab n)) c1) (cell_self (u := .bool (sn n)) r0) (by simp)) (by simp)) (nb _)).setBox (i := 4) (u := .slice (some ⟨w1.heap.size, 0, none⟩) 1 1) (keepo (R := w.heap.size) (j := 3) (u := .slice none 0 0) (keepo (R := w.heap.size) (j := 2) (u := .bool false) (keepo (R := w.heap.size) (j := 1) (u := .slice A1 (ln (ab n)) c1) (cell_self (u := .bool (sn n)) r0) (by simp)) (by simp)) (by simp)) (nb _))
  have HX : Below w.heap.size w X := by rw [hX]; exact (((((HW.out.setCell (by exact Nat.le_refl _) _).setCell (by exact Nat.le_refl _) _).setCell (by exact Nat.le_refl _) _).setCell (by exact Nat.le_refl _) _).setCell (by exact Nat.le_refl _) _)
  clear hX r0 r1 r2 r3 r4 f0 f1 f2 f3 f4 h1 HW
  have l9 : w.heap.size < X.heap.size := by rw [z0]; exact l0
  rw [← z0]
  rw [← z0] at y4
  clear z0 l0
  obtain ⟨Y, hY⟩ : ∃ Y : World, Y = X.alloc (.cells #[.int .u32 1] 45) := ⟨_, rfl⟩
  rw [← hY]
  replace y0 := keepa (o := .cells #[.int .u32 1] 45) y0 l9
  rw [← hY] at y0
  replace v0 : Y.frozen? ⟨w.heap.size, 0, none⟩ = false := by rw [hY]; exact keepf ((Below.refl _ _).alloc (Nat.le_refl _) _) v0 l9
  replace y1 := keepa (o := .cells #[.int .u32 1] 45) y1 l9
  rw [← hY] at y1
  replace v1 : Y.frozen? ⟨w.heap.size, 1, none⟩ = false := by rw [hY]; exact keepf ((Below.refl _ _).alloc (Nat.le_refl _) _) v1 l9
  replace y2 := keepa (o := .cells #[.int .u32 1] 45) y2 l9
  rw [← hY] at y2
  replace v2 : Y.frozen? ⟨w.heap.size, 2, none⟩ = false := by rw [hY]; exact keepf ((Below.refl _ _).alloc (Nat.le_refl _) _) v2 l9
  replace y3 := keepa (o := .cells #[.int .u32 1] 45) y3 l9
  rw [← hY] at y3
  replace v3 : Y.frozen? ⟨w.heap.size, 3, none⟩ = false := by rw [hY]; exact keepf ((Below.refl _ _).alloc (Nat.le_refl _) _) v3 l9
  replace y4 := keepa (o := .cells #[.int .u32 1] 45) y4 l9
  rw [← hY] at y4
  replace v4 : Y.frozen? ⟨w.heap.size, 4, none⟩ = false := by rw [hY]; exact keepf ((Below.refl _ _).alloc (Nat.le_refl _) _) v4 l9
  have h1 : Nat32 Y A1 (ab n) := by rw [hY]; exact hX1.alloc _
  have h3 : Nat32 Y (some ⟨X.heap.size, 0, none⟩) 1 := by rw [hY]; exact nat1_new _ _
  have HY : Below w.heap.size w Y := by rw [hY]; exact HX.alloc (by omega) _
  clear hY hX1 HX
  refine bodyPost_ret (v := .agg #[.bool (sn n), .slice A1 (ln (ab n)) c1, .bool false, .slice none 0 0, .slice (some ⟨X.heap.size, 0, none⟩) 1 1]) (by simp [results, Tryz.results86, go_sem, y0, y1, y2, y3, y4, v0, v1, v2, v3, v4]) rfl ?_
  obtain ⟨e1, e2, e3⟩ := E.out
  refine ⟨A1, none, some ⟨X.heap.size, 0, none⟩, c1, 0, 1, ?_, ⟨by rw [e1]; exact h1, by rw [e2]; exact fun e => absurd rfl e, by rw [e3]; exact h3⟩, HY⟩
  rw [e1, e2, e3, sn_zero, show ab 0 = 0 from rfl, ln_zero, ln_one]

set_option maxHeartbeats 4000000 in
theorem rnew_zero (a b d : Int) (w : World) (ha : -9223372036854775808 ≤ a ∧ a ≤ 9223372036854775807) (hb : -9223372036854775808 ≤ b ∧ b ≤ 9223372036854775807) (hd : -9223372036854775808 ≤ d ∧ d ≤ 9223372036854775807) (h : d = 0) :
    Calls Tryz.prog 131 #[.int .i64 a, .int .i64 b, .int .i64 d] w (RetNumCE w 3 Cx.zero) := by
  have HA := Lib.hid ha
  have HB := Lib.hid hb
  have HD := Lib.hid hd
  clear ha hb hd
  subst h
  go_enter Tryz.func131, Tryz.ntmps131
  go_wp2_with fail
  obtain ⟨W, hW⟩ : ∃ W : World, W = (w.alloc (.cells #[.bool false, .slice none 0 0, .bool false, .slice none 0 0, .slice none 0 0] 34)) := ⟨_, rfl⟩
  have r0 : W.cell? ⟨w.heap.size, 0, none⟩ = some (.bool false) := by subst hW; go_simp
  have f0 : W.frozen? ⟨w.heap.size, 0, none⟩ = false := by subst hW; go_simp
  have r1 : W.cell? ⟨w.heap.size, 1, none⟩ = some (.slice none 0 0) := by subst hW; go_simp
  have f1 : W.frozen? ⟨w.heap.size, 1, none⟩ = false := by subst hW; go_simp
  have r2 : W.cell? ⟨w.heap.size, 2, none⟩ = some (.bool false) := by subst hW; go_simp
  have f2 : W.frozen? ⟨w.heap.size, 2, none⟩ = false := by subst hW; go_simp
  have r3 : W.cell? ⟨w.heap.size, 3, none⟩ = some (.slice none 0 0) := by subst hW; go_simp
  have f3 : W.frozen? ⟨w.heap.size, 3, none⟩ = false := by subst hW; go_simp
  have r4 : W.cell? ⟨w.heap.size, 4, none⟩ = some (.slice none 0 0) := by subst hW; go_simp
  have f4 : W.frozen? ⟨w.heap.size, 4, none⟩ = false := by subst hW; go_simp
  have HW : Below w.heap.size w W := by subst hW; exact ((Below.refl w.heap.size w).alloc (Nat.le_refl _) _)
  have l0 : w.heap.size < W.heap.size := by subst hW; simp
  rw [← hW]
  clear hW
  replace HW := Lib.hid HW
  refine (rwhole_any 0 _ (by omega) (by omega)).mono ?_
  rintro e w1 ⟨Z1, Z2, Z3, cZ1, cZ2, cZ3, rfl, h1, hb1⟩
  replace r0 := keepc hb1 r0 l0
  replace f0 := keepf hb1 f0 l0
  replace r1 := keepc hb1 r1 l0
  replace f1 := keepf hb1 f1 l0
  replace r2 := keepc hb1 r2 l0
  replace f2 := keepf hb1 f2 l0
  replace r3 := keepc hb1 r3 l0
  replace f3 := keepf hb1 f3 l0
  replace r4 := keepc hb1 r4 l0
  replace f4 := keepf hb1 f4 l0
  replace l0 := Nat.lt_of_lt_of_le l0 hb1.size
  replace HW := Lib.hid (hstep HW hb1)
  clear hb1
  go_wp2_with fail
  exact bodyPost_ret (v := .tuple #[.agg #[.bool (sn (na (Cx.ofInt 0))), .slice Z1 (ln (ab (na (Cx.ofInt 0)))) cZ1, .bool (sn (nb (Cx.ofInt 0))), .slice Z2 (ln (ab (nb (Cx.ofInt 0)))) cZ2, .slice Z3 (ln (nd (Cx.ofInt 0))) cZ3], .int .i64 3]) (by simp [results, Tryz.results131, go_sem, r0, r1, r2, r3, r4, f0, f1, f2, f3, f4]) rfl (retNumCE_fin (q := Cx.ofInt 0) HW h1 (by omega) r0)

set_option maxHeartbeats 4000000 in
theorem rnew_pos (a b d : Int) (w : World) (ha : -9223372036854775808 ≤ a ∧ a ≤ 9223372036854775807) (hb : -9223372036854775808 ≤ b ∧ b ≤ 9223372036854775807) (hd : -9223372036854775808 ≤ d ∧ d ≤ 9223372036854775807) (h : 0 < d) :
    Calls Tryz.prog 131 #[.int .i64 a, .int .i64 b, .int .i64 d] w (RetNumCE w 0 (frz a b d)) := by
  have HA := Lib.hid ha
  have HB := Lib.hid hb
  have HD := Lib.hid hd
  clear ha hb hd
  rw [← frz_pos h]
  have t : (d == 0) = false := by rw [beq_eq_false_iff_ne]; omega
  have t1 : sn d = false := by unfold sn; rw [decide_eq_false_iff_not]; omega
  have HN : Hid (ab d ≠ 0) := Lib.hid (by unfold ab; omega)
  clear h
  go_enter Tryz.func131, Tryz.ntmps131
  go_wp2_with fail
  obtain ⟨W, hW⟩ : ∃ W : World, W = (w.alloc (.cells #[.bool false, .slice none 0 0, .bool false, .slice none 0 0, .slice none 0 0] 34)) := ⟨_, rfl⟩
  have r0 : W.cell? ⟨w.heap.size, 0, none⟩ = some (.bool false) := by subst hW; go_simp
  have f0 : W.frozen? ⟨w.heap.size, 0, none⟩ = false := by subst hW; go_simp
  have r1 : W.cell? ⟨w.heap.size, 1, none⟩ = some (.slice none 0 0) := by subst hW; go_simp
  have f1 : W.frozen? ⟨w.heap.size, 1, none⟩ = false := by subst hW; go_simp
  have r2 : W.cell? ⟨w.heap.size, 2, none⟩ = some (.bool false) := by subst hW; go_simp
  have f2 : W.frozen? ⟨w.heap.size, 2, none⟩ = false := by subst hW; go_simp
  have r3 : W.cell? ⟨w.heap.size, 3, none⟩ = some (.slice none 0 0) := by subst hW; go_simp
  have f3 : W.frozen? ⟨w.heap.size, 3, none⟩ = false := by subst hW; go_simp
  have r4 : W.cell? ⟨w.heap.size, 4, none⟩ = some (.slice none 0 0) := by subst hW; go_simp
  have f4 : W.frozen? ⟨w.heap.size, 4, none⟩ = false := by subst hW; go_simp
  have HW : Below w.heap.size w W := by subst hW; exact ((Below.refl w.heap.size w).alloc (Nat.le_refl _) _)
  have l0 : w.heap.size < W.heap.size := by subst hW; simp
  rw [← hW]
  clear hW
  replace HW := Lib.hid HW
  refine (rintOf_any d _ HD.out.1 HD.out.2).mono ?_
  rintro e w1 ⟨A3, c3, rfl, h3, hb1⟩
  replace r0 := keepc hb1 r0 l0
  replace f0 := keepf hb1 f0 l0
  replace r1 := keepc hb1 r1 l0
  replace f1 := keepf hb1 f1 l0
  replace r2 := keepc hb1 r2 l0
  replace f2 := keepf hb1 f2 l0
  replace r3 := keepc hb1 r3 l0
  replace f3 := keepf hb1 f3 l0
  replace r4 := keepc hb1 r4 l0
  replace f4 := keepf hb1 f4 l0
  replace l0 := Nat.lt_of_lt_of_le l0 hb1.size
  replace HW := Lib.hid (hstep HW hb1)
  clear hb1
  go_wp2_with fail
  obtain ⟨X, hX⟩ : ∃ X : World, X = w1.alloc (.cells #[.bool false, .slice A3 (ln (ab d)) c3] 32) := ⟨_, rfl⟩
  rw [← hX]
  have hb2 : Below w1.heap.size w1 X := by subst hX; exact (Below.refl _ _).alloc (Nat.le_refl _) _
  have u2_0 : X.cell? ⟨w1.heap.size, 0, none⟩ = some (.bool false) := by subst hX; go_simp
  have u2_1 : X.cell? ⟨w1.heap.size, 1, none⟩ = some (.slice A3 (ln (ab d)) c3) := by subst hX; go_simp
  have l202 : w1.heap.size < X.heap.size := by subst hX; simp
  have hp8 : w.heap.size < w1.heap.size := l0
  clear hX
  replace r0 := keepc hb2 r0 l0
  replace f0 := keepf hb2 f0 l0
  replace r1 := keepc hb2 r1 l0
  replace f1 := keepf hb2 f1 l0
  replace r2 := keepc hb2 r2 l0
  replace f2 := keepf hb2 f2 l0
  replace r3 := keepc hb2 r3 l0
  replace f3 := keepf hb2 f3 l0
  replace r4 := keepc hb2 r4 l0
  replace f4 := keepf hb2 f4 l0
  replace l0 := Nat.lt_of_lt_of_le l0 hb2.size
  replace h3 := h3.to hb2
  replace HW := Lib.hid (hstep HW hb2)
  clear hb2
  obtain ⟨p8, hp⟩ : ∃ p, p = w1.heap.size := ⟨_, rfl⟩
  rw [← hp] at u2_0 u2_1 l202 hp8 ⊢
  clear hp
  refine (rintOf_any a _ HA.out.1 HA.out.2).mono ?_
  rintro e w3 ⟨A1, c1, rfl, h1, hb3⟩
  replace u2_0 := keepc hb3 u2_0 l202
  replace u2_1 := keepc hb3 u2_1 l202
  replace r0 := keepc hb3 r0 l0
  replace f0 := keepf hb3 f0 l0
  replace r1 := keepc hb3 r1 l0
  replace f1 := keepf hb3 f1 l0
  replace r2 := keepc hb3 r2 l0
  replace f2 := keepf hb3 f2 l0
  replace r3 := keepc hb3 r3 l0
  replace f3 := keepf hb3 f3 l0
  replace r4 := keepc hb3 r4 l0
  replace f4 := keepf hb3 f4 l0
  replace l0 := Nat.lt_of_lt_of_le l0 hb3.size
  replace l202 := Nat.lt_of_lt_of_le l202 hb3.size
  replace h3 := h3.to hb3
  replace HW := Lib.hid (hstep HW hb3)
  clear hb3
  go_wp2_with fail
  refine (rintOf_any b _ HB.out.1 HB.out.2).mono ?_
  rintro e w4 ⟨A2, c2, rfl, h2, hb4⟩
  replace u2_0 := keepc hb4 u2_0 l202
  replace u2_1 := keepc hb4 u2_1 l202
  replace r0 := keepc hb4 r0 l0
  replace f0 := keepf hb4 f0 l0
  replace r1 := keepc hb4 r1 l0
  replace f1 := keepf hb4 f1 l0
  replace r2 := keepc hb4 r2 l0
  replace f2 := keepf hb4 f2 l0
  replace r3 := keepc hb4 r3 l0
  replace f3 := keepf hb4 f3 l0
  replace r4 := keepc hb4 r4 l0
  replace f4 := keepf hb4 f4 l0
  replace l0 := Nat.lt_of_lt_of_le l0 hb4.size
  replace l202 := Nat.lt_of_lt_of_le l202 hb4.size
  replace h3 := h3.to hb4
  replace h1 := h1.to hb4
  replace HW := Lib.hid (hstep HW hb4)
  clear hb4
  go_wp2_with fail
  refine (rmake_any a b (ab d) A1 A2 A3 c1 c2 c3 _ (by exact ((h1.alloc _).alloc _)) (by exact ((h2.alloc _).alloc _)) (by exact ((h3.alloc _).alloc _)) (by have := ab_small HA.out.1 HA.out.2; omega) (by have := ab_small HB.out.1 HB.out.2; omega) (by have := ab_small HD.out.1 HD.out.2; omega) HN.out).mono ?_
  rintro e w5 ⟨Z1, Z2, Z3, cZ1, cZ2, cZ3, rfl, h4, hb5⟩
  replace hb5 := unalloc (unalloc hb5)
  replace u2_0 := keepc hb5 u2_0 l202
  replace u2_1 := keepc hb5 u2_1 l202
  replace r0 := keepc hb5 r0 l0
  replace f0 := keepf hb5 f0 l0
  replace r1 := keepc hb5 r1 l0
  replace f1 := keepf hb5 f1 l0
  replace r2 := keepc hb5 r2 l0
  replace f2 := keepf hb5 f2 l0
  replace r3 := keepc hb5 r3 l0
  replace f3 := keepf hb5 f3 l0
  replace r4 := keepc hb5 r4 l0
  replace f4 := keepf hb5 f4 l0
  replace l0 := Nat.lt_of_lt_of_le l0 hb5.size
  replace l202 := Nat.lt_of_lt_of_le l202 hb5.size
  replace h3 := h3.to hb5
  replace h1 := h1.to hb5
  replace h2 := h2.to hb5
  replace HW := Lib.hid (hstep HW hb5)
  clear hb5
  go_wp2_with fail
  exact bodyPost_ret (v := .tuple #[.agg #[.bool (sn (na (fr a b (ab d)))), .slice Z1 (ln (ab (na (fr a b (ab d))))) cZ1, .bool (sn (nb (fr a b (ab d)))), .slice Z2 (ln (ab (nb (fr a b (ab d))))) cZ2, .slice Z3 (ln (nd (fr a b (ab d)))) cZ3], .int .i64 0]) (by simp [results, Tryz.results131, go_sem, r0, r1, r2, r3, r4, f0, f1, f2, f3, f4]) rfl (retNumCE_fin HW h4 (by omega) r0)

/-- Two local integers in the blocks p and p + 1 are set. -/
def set4c (w : World) (p : Nat) (z1 z2 : Int) (M1 M2 : Option Addr) (m1 m2 : Nat) : World :=
  (((w.setCell ⟨p, 0, none⟩ (.bool (sn z1))).setCell ⟨p, 1, none⟩ (.slice M1 (ln (ab z1)) m1)).setCell ⟨p + 1, 0, none⟩ (.bool (sn z2))).setCell ⟨p + 1, 1, none⟩ (.slice M2 (ln (ab z2)) m2)
theorem set4c_size (w : World) (p : Nat) (z1 z2 : Int) (M1 M2 : Option Addr) (m1 m2 : Nat) : (set4c w p z1 z2 M1 M2 m1 m2).heap.size = w.heap.size := by simp [set4c, World.setCell]
theorem set4c_cell {w : World} {p b i m1 m2 : Nat} {z1 z2 : Int} {M1 M2 : Option Addr} {v : Value} (h : w.cell? ⟨b, i, none⟩ = some v) (h1 : b ≠ p) (h2 : b ≠ p + 1) : (set4c w p z1 z2 M1 M2 m1 m2).cell? ⟨b, i, none⟩ = some v := keepo (keepo (keepo (keepo h (.inl h1)) (.inl h1)) (.inl h2)) (.inl h2)
theorem set4c_frozen {w : World} {p b i m1 m2 : Nat} {z1 z2 : Int} {M1 M2 : Option Addr} {v : Bool} (h : w.frozen? ⟨b, i, none⟩ = v) : (set4c w p z1 z2 M1 M2 m1 m2).frozen? ⟨b, i, none⟩ = v := keepof (keepof (keepof (keepof h)))
theorem set4c_below {w W : World} {B p m1 m2 : Nat} {z1 z2 : Int} {M1 M2 : Option Addr} (h : Below B w W) (hp : B ≤ p) : Below B w (set4c W p z1 z2 M1 M2 m1 m2) :=
  (((h.setCell (by exact hp) _).setCell (by exact hp) _).setCell (by show B ≤ p + 1; omega) _).setCell (by show B ≤ p + 1; omega) _
theorem set4c_nat {w : World} {p n m1 m2 : Nat} {z1 z2 : Int} {M1 M2 A : Option Addr} {c1 c2 : Bool} (h : Nat32 w A n) (u1 : w.cell? ⟨p, 0, none⟩ = some (.bool c1)) (u2 : w.cell? ⟨p + 1, 0, none⟩ = some (.bool c2)) : Nat32 (set4c w p z1 z2 M1 M2 m1 m2) A n := by
  have nb : ∀ (b : Bool) k m, Value.bool b ≠ .int k m := by intro b k m e; cases e
  have a1 := cell_self (u := .bool (sn z1)) u1
  have b1 : ((w.setCell ⟨p, 0, none⟩ (.bool (sn z1))).setCell ⟨p, 1, none⟩ (.slice M1 (ln (ab z1)) m1)).cell? ⟨p + 1, 0, none⟩ = some (.bool c2) := keepo (keepo u2 (.inl (by omega))) (.inl (by omega))
  exact (((h.setBox u1 (nb _)).setBox a1 (nb _)).setBox b1 (nb _)).setBox (cell_self b1) (nb _)

set_option maxHeartbeats 4000000 in
theorem rnew_neg (a b d : Int) (w : World) (ha : -9223372036854775808 ≤ a ∧ a ≤ 9223372036854775807) (hb : -9223372036854775808 ≤ b ∧ b ≤ 9223372036854775807) (hd : -9223372036854775808 ≤ d ∧ d ≤ 9223372036854775807) (h : d < 0) :
    Calls Tryz.prog 131 #[.int .i64 a, .int .i64 b, .int .i64 d] w (RetNumCE w 0 (frz a b d)) := by
  have HA := Lib.hid ha
  have HB := Lib.hid hb
  have HD := Lib.hid hd
  clear ha hb hd
  rw [← frz_neg h]
  have t : (d == 0) = false := by rw [beq_eq_false_iff_ne]; omega
  have t1 : sn d = true := by unfold sn; rw [decide_eq_true_eq]; omega
  have HN : Hid (ab d ≠ 0) := Lib.hid (by unfold ab; omega)
  clear h
  go_enter Tryz.func131, Tryz.ntmps131
  go_wp2_with fail
  obtain ⟨W, hW⟩ : ∃ W : World, W = (w.alloc (.cells #[.bool false, .slice none 0 0, .bool false, .slice none 0 0, .slice none 0 0] 34)) := ⟨_, rfl⟩
  have r0 : W.cell? ⟨w.heap.size, 0, none⟩ = some (.bool false) := by subst hW; go_simp
  have f0 : W.frozen? ⟨w.heap.size, 0, none⟩ = false := by subst hW; go_simp
  have r1 : W.cell? ⟨w.heap.size, 1, none⟩ = some (.slice none 0 0) := by subst hW; go_simp
  have f1 : W.frozen? ⟨w.heap.size, 1, none⟩ = false := by subst hW; go_simp
  have r2 : W.cell? ⟨w.heap.size, 2, none⟩ = some (.bool false) := by subst hW; go_simp
  have f2 : W.frozen? ⟨w.heap.size, 2, none⟩ = false := by subst hW; go_simp
  have r3 : W.cell? ⟨w.heap.size, 3, none⟩ = some (.slice none 0 0) := by subst hW; go_simp
  have f3 : W.frozen? ⟨w.heap.size, 3, none⟩ = false := by subst hW; go_simp
  have r4 : W.cell? ⟨w.heap.size, 4, none⟩ = some (.slice none 0 0) := by subst hW; go_simp
  have f4 : W.frozen? ⟨w.heap.size, 4, none⟩ = false := by subst hW; go_simp
  have HW : Below w.heap.size w W := by subst hW; exact ((Below.refl w.heap.size w).alloc (Nat.le_refl _) _)
  have l0 : w.heap.size < W.heap.size := by subst hW; simp
  rw [← hW]
  clear hW
  replace HW := Lib.hid HW
  refine (rintOf_any d _ HD.out.1 HD.out.2).mono ?_
  rintro e w1 ⟨A3, c3, rfl, h3, hb1⟩
  replace r0 := keepc hb1 r0 l0
  replace f0 := keepf hb1 f0 l0
  replace r1 := keepc hb1 r1 l0
  replace f1 := keepf hb1 f1 l0
  replace r2 := keepc hb1 r2 l0
  replace f2 := keepf hb1 f2 l0
  replace r3 := keepc hb1 r3 l0
  replace f3 := keepf hb1 f3 l0
  replace r4 := keepc hb1 r4 l0
  replace f4 := keepf hb1 f4 l0
  replace l0 := Nat.lt_of_lt_of_le l0 hb1.size
  replace HW := Lib.hid (hstep HW hb1)
  clear hb1
  go_wp2_with fail
  obtain ⟨X, hX⟩ : ∃ X : World, X = w1.alloc (.cells #[.bool true, .slice A3 (ln (ab d)) c3] 32) := ⟨_, rfl⟩
  rw [← hX]
  have hb2 : Below w1.heap.size w1 X := by subst hX; exact (Below.refl _ _).alloc (Nat.le_refl _) _
  have u2_0 : X.cell? ⟨w1.heap.size, 0, none⟩ = some (.bool true) := by subst hX; go_simp
  have u2_1 : X.cell? ⟨w1.heap.size, 1, none⟩ = some (.slice A3 (ln (ab d)) c3) := by subst hX; go_simp
  have l202 : w1.heap.size < X.heap.size := by subst hX; simp
  have hp8 : w.heap.size < w1.heap.size := l0
  clear hX
  replace r0 := keepc hb2 r0 l0
  replace f0 := keepf hb2 f0 l0
  replace r1 := keepc hb2 r1 l0
  replace f1 := keepf hb2 f1 l0
  replace r2 := keepc hb2 r2 l0
  replace f2 := keepf hb2 f2 l0
  replace r3 := keepc hb2 r3 l0
  replace f3 := keepf hb2 f3 l0
  replace r4 := keepc hb2 r4 l0
  replace f4 := keepf hb2 f4 l0
  replace l0 := Nat.lt_of_lt_of_le l0 hb2.size
  replace h3 := h3.to hb2
  replace HW := Lib.hid (hstep HW hb2)
  clear hb2
  obtain ⟨p8, hp⟩ : ∃ p, p = w1.heap.size := ⟨_, rfl⟩
  rw [← hp] at u2_0 u2_1 l202 hp8 ⊢
  clear hp
  refine (rintOf_any a _ HA.out.1 HA.out.2).mono ?_
  rintro e w3 ⟨A1, c1, rfl, h1, hb3⟩
  replace u2_0 := keepc hb3 u2_0 l202
  replace u2_1 := keepc hb3 u2_1 l202
  replace r0 := keepc hb3 r0 l0
  replace f0 := keepf hb3 f0 l0
  replace r1 := keepc hb3 r1 l0
  replace f1 := keepf hb3 f1 l0
  replace r2 := keepc hb3 r2 l0
  replace f2 := keepf hb3 f2 l0
  replace r3 := keepc hb3 r3 l0
  replace f3 := keepf hb3 f3 l0
  replace r4 := keepc hb3 r4 l0
  replace f4 := keepf hb3 f4 l0
  replace l0 := Nat.lt_of_lt_of_le l0 hb3.size
  replace l202 := Nat.lt_of_lt_of_le l202 hb3.size
  replace h3 := h3.to hb3
  replace HW := Lib.hid (hstep HW hb3)
  clear hb3
  go_wp2_with fail
  refine (rintOf_any b _ HB.out.1 HB.out.2).mono ?_
  rintro e w4 ⟨A2, c2, rfl, h2, hb4⟩
  replace u2_0 := keepc hb4 u2_0 l202
  replace u2_1 := keepc hb4 u2_1 l202
  replace r0 := keepc hb4 r0 l0
  replace f0 := keepf hb4 f0 l0
  replace r1 := keepc hb4 r1 l0
  replace f1 := keepf hb4 f1 l0
  replace r2 := keepc hb4 r2 l0
  replace f2 := keepf hb4 f2 l0
  replace r3 := keepc hb4 r3 l0
  replace f3 := keepf hb4 f3 l0
  replace r4 := keepc hb4 r4 l0
  replace f4 := keepf hb4 f4 l0
  replace l0 := Nat.lt_of_lt_of_le l0 hb4.size
  replace l202 := Nat.lt_of_lt_of_le l202 hb4.size
  replace h3 := h3.to hb4
  replace h1 := h1.to hb4
  replace HW := Lib.hid (hstep HW hb4)
  clear hb4
  go_upto_region 6 with fail
  obtain ⟨X, hX⟩ : ∃ X : World, X = ((w4.alloc (.cells #[.bool (sn a), .slice A1 (ln (ab a)) c1] 32)).alloc (.cells #[.bool (sn b), .slice A2 (ln (ab b)) c2] 32)) := ⟨_, rfl⟩
  rw [← hX]
  have hb5 : Below w4.heap.size w4 X := by subst hX; exact ((Below.refl _ _).alloc (Nat.le_refl _) _).alloc (by simp) _
  have u0_0 : X.cell? ⟨w4.heap.size, 0, none⟩ = some (.bool (sn a)) := by subst hX; go_simp
  have u0_1 : X.cell? ⟨w4.heap.size, 1, none⟩ = some (.slice A1 (ln (ab a)) c1) := by subst hX; go_simp
  have e0_0 : X.frozen? ⟨w4.heap.size, 0, none⟩ = false := by subst hX; go_simp
  have e0_1 : X.frozen? ⟨w4.heap.size, 1, none⟩ = false := by subst hX; go_simp
  have l200 : w4.heap.size < X.heap.size := by subst hX; simp <;> omega
  have u1_0 : X.cell? ⟨w4.heap.size + 1, 0, none⟩ = some (.bool (sn b)) := by subst hX; go_simp
  have u1_1 : X.cell? ⟨w4.heap.size + 1, 1, none⟩ = some (.slice A2 (ln (ab b)) c2) := by subst hX; go_simp
  have e1_0 : X.frozen? ⟨w4.heap.size + 1, 0, none⟩ = false := by subst hX; go_simp
  have e1_1 : X.frozen? ⟨w4.heap.size + 1, 1, none⟩ = false := by subst hX; go_simp
  have l201 : w4.heap.size + 1 < X.heap.size := by subst hX; simp <;> omega
  clear hX
  have hp : w.heap.size < w4.heap.size := l0
  have hp9 : p8 < w4.heap.size := l202
  replace u2_0 := keepc hb5 u2_0 l202
  replace u2_1 := keepc hb5 u2_1 l202
  replace r0 := keepc hb5 r0 l0
  replace f0 := keepf hb5 f0 l0
  replace r1 := keepc hb5 r1 l0
  replace f1 := keepf hb5 f1 l0
  replace r2 := keepc hb5 r2 l0
  replace f2 := keepf hb5 f2 l0
  replace r3 := keepc hb5 r3 l0
  replace f3 := keepf hb5 f3 l0
  replace r4 := keepc hb5 r4 l0
  replace f4 := keepf hb5 f4 l0
  replace l0 := Nat.lt_of_lt_of_le l0 hb5.size
  replace l202 := Nat.lt_of_lt_of_le l202 hb5.size
  replace h3 := h3.to hb5
  replace h1 := h1.to hb5
  replace h2 := h2.to hb5
  replace HW := Lib.hid (hstep HW hb5)
  clear hb5
  generalize w4.heap.size = p at *
  have d0 : p ≠ w.heap.size := by omega
  have dd0 : p ≠ p8 := by omega
  have d1 : p + 1 ≠ w.heap.size := by omega
  have dd1 : p + 1 ≠ p8 := by omega
  have d2 : p + 1 ≠ p := by omega
  go_region_with (first
    | (go_at_call_of 107 (Value.slice A1 (ln (ab a)) c1); refine (rintNeg_any a A1 c1 _ (by exact h1)).mono ?_; rintro e w6 ⟨M0, m0, rfl, q0, hb6⟩; have hb6 := undrew hb6; replace u2_0 := keepc hb6 u2_0 l202; replace u2_1 := keepc hb6 u2_1 l202; replace u0_0 := keepc hb6 u0_0 l200; replace u0_1 := keepc hb6 u0_1 l200; replace u1_0 := keepc hb6 u1_0 l201; replace u1_1 := keepc hb6 u1_1 l201; replace r0 := keepc hb6 r0 l0; replace f0 := keepf hb6 f0 l0; replace r1 := keepc hb6 r1 l0; replace f1 := keepf hb6 f1 l0; replace r2 := keepc hb6 r2 l0; replace f2 := keepf hb6 f2 l0; replace r3 := keepc hb6 r3 l0; replace f3 := keepf hb6 f3 l0; replace r4 := keepc hb6 r4 l0; replace f4 := keepf hb6 f4 l0; replace e0_0 := keepf hb6 e0_0 l200; replace e0_1 := keepf hb6 e0_1 l200; replace e1_0 := keepf hb6 e1_0 l201; replace e1_1 := keepf hb6 e1_1 l201; replace l0 := Nat.lt_of_lt_of_le l0 hb6.size; replace l200 := Nat.lt_of_lt_of_le l200 hb6.size; replace l201 := Nat.lt_of_lt_of_le l201 hb6.size; replace l202 := Nat.lt_of_lt_of_le l202 hb6.size; replace h3 := h3.to hb6; replace h1 := h1.to hb6; replace h2 := h2.to hb6; replace HW := Lib.hid (hstep HW hb6); clear hb6)
    | (go_at_call_of 107 (Value.slice A2 (ln (ab b)) c2); refine (rintNeg_any b A2 c2 _ (by exact h2)).mono ?_; rintro e w7 ⟨M1, m1, rfl, q1, hb7⟩; replace u2_0 := keepc hb7 u2_0 l202; replace u2_1 := keepc hb7 u2_1 l202; replace u0_0 := keepc hb7 u0_0 l200; replace u0_1 := keepc hb7 u0_1 l200; replace u1_0 := keepc hb7 u1_0 l201; replace u1_1 := keepc hb7 u1_1 l201; replace r0 := keepc hb7 r0 l0; replace f0 := keepf hb7 f0 l0; replace r1 := keepc hb7 r1 l0; replace f1 := keepf hb7 f1 l0; replace r2 := keepc hb7 r2 l0; replace f2 := keepf hb7 f2 l0; replace r3 := keepc hb7 r3 l0; replace f3 := keepf hb7 f3 l0; replace r4 := keepc hb7 r4 l0; replace f4 := keepf hb7 f4 l0; replace e0_0 := keepf hb7 e0_0 l200; replace e0_1 := keepf hb7 e0_1 l200; replace e1_0 := keepf hb7 e1_0 l201; replace e1_1 := keepf hb7 e1_1 l201; replace l0 := Nat.lt_of_lt_of_le l0 hb7.size; replace l200 := Nat.lt_of_lt_of_le l200 hb7.size; replace l201 := Nat.lt_of_lt_of_le l201 hb7.size; replace l202 := Nat.lt_of_lt_of_le l202 hb7.size; replace h3 := h3.to hb7; replace h1 := h1.to hb7; replace h2 := h2.to hb7; replace q0 := q0.to hb7; replace HW := Lib.hid (hstep HW hb7); clear hb7))
  all_goals
    go_wp2_with fail
    obtain ⟨X2, hX2⟩ : ∃ X : World, X = set4c w7 p (-a) (-b) M0 M1 m0 m1 := ⟨_, rfl⟩
    have hw : set4c w7 p (-a) (-b) M0 M1 m0 m1 = X2 := hX2.symm
    unfold set4c at hw
    rw [hw]
    clear hw
    replace q0 := set4c_nat (z1 := -a) (z2 := -b) (M1 := M0) (M2 := M1) (m1 := m0) (m2 := m1) q0 u0_0 u1_0
    rw [← hX2] at q0
    replace q1 := set4c_nat (z1 := -a) (z2 := -b) (M1 := M0) (M2 := M1) (m1 := m0) (m2 := m1) q1 u0_0 u1_0
    rw [← hX2] at q1
    replace h3 := set4c_nat (z1 := -a) (z2 := -b) (M1 := M0) (M2 := M1) (m1 := m0) (m2 := m1) h3 u0_0 u1_0
    rw [← hX2] at h3
    replace r0 := set4c_cell (z1 := -a) (z2 := -b) (M1 := M0) (M2 := M1) (m1 := m0) (m2 := m1) (p := p) r0 (by omega) (by omega)
    rw [← hX2] at r0
    replace f0 := set4c_frozen (z1 := -a) (z2 := -b) (M1 := M0) (M2 := M1) (m1 := m0) (m2 := m1) (p := p) f0
    rw [← hX2] at f0
    replace r1 := set4c_cell (z1 := -a) (z2 := -b) (M1 := M0) (M2 := M1) (m1 := m0) (m2 := m1) (p := p) r1 (by omega) (by omega)
    rw [← hX2] at r1
    replace f1 := set4c_frozen (z1 := -a) (z2 := -b) (M1 := M0) (M2 := M1) (m1 := m0) (m2 := m1) (p := p) f1
    rw [← hX2] at f1
    replace r2 := set4c_cell (z1 := -a) (z2 := -b) (M1 := M0) (M2 := M1) (m1 := m0) (m2 := m1) (p := p) r2 (by omega) (by omega)
    rw [← hX2] at r2
    replace f2 := set4c_frozen (z1 := -a) (z2 := -b) (M1 := M0) (M2 := M1) (m1 := m0) (m2 := m1) (p := p) f2
    rw [← hX2] at f2
    replace r3 := set4c_cell (z1 := -a) (z2 := -b) (M1 := M0) (M2 := M1) (m1 := m0) (m2 := m1) (p := p) r3 (by omega) (by omega)
    rw [← hX2] at r3
    replace f3 := set4c_frozen (z1 := -a) (z2 := -b) (M1 := M0) (M2 := M1) (m1 := m0) (m2 := m1) (p := p) f3
    rw [← hX2] at f3
    replace r4 := set4c_cell (z1 := -a) (z2 := -b) (M1 := M0) (M2 := M1) (m1 := m0) (m2 := m1) (p := p) r4 (by omega) (by omega)
    rw [← hX2] at r4
    replace f4 := set4c_frozen (z1 := -a) (z2 := -b) (M1 := M0) (M2 := M1) (m1 := m0) (m2 := m1) (p := p) f4
    rw [← hX2] at f4
    replace HW := Lib.hid (set4c_below (z1 := -a) (z2 := -b) (M1 := M0) (M2 := M1) (m1 := m0) (m2 := m1) HW.out (show w.heap.size ≤ p by omega))
    rw [← hX2] at HW
    have l0 : w.heap.size < X2.heap.size := by rw [hX2, set4c_size]; exact l0
    clear u0_0 u0_1 u1_0 u1_1 u2_0 u2_1 e0_0 e0_1 e1_0 e1_1 l200 l201 l202 hX2
    refine (rmake_any (-a) (-b) (ab d) M0 M1 A3 m0 m1 c3 _ (by exact q0) (by exact q1) (by exact h3) (by rw [ab_neg]; have := ab_small HA.out.1 HA.out.2; omega) (by rw [ab_neg]; have := ab_small HB.out.1 HB.out.2; omega) (by have := ab_small HD.out.1 HD.out.2; omega) HN.out).mono ?_
    rintro e w9 ⟨Z1, Z2, Z3, cZ1, cZ2, cZ3, rfl, h9, hb9⟩
    replace r0 := keepc hb9 r0 l0
    replace f0 := keepf hb9 f0 l0
    replace r1 := keepc hb9 r1 l0
    replace f1 := keepf hb9 f1 l0
    replace r2 := keepc hb9 r2 l0
    replace f2 := keepf hb9 f2 l0
    replace r3 := keepc hb9 r3 l0
    replace f3 := keepf hb9 f3 l0
    replace r4 := keepc hb9 r4 l0
    replace f4 := keepf hb9 f4 l0
    replace HW := Lib.hid (hstep HW hb9)
    go_wp2_with fail
    exact bodyPost_ret (v := .tuple #[.agg #[.bool (sn (na (fr (-a) (-b) (ab d)))), .slice Z1 (ln (ab (na (fr (-a) (-b) (ab d))))) cZ1, .bool (sn (nb (fr (-a) (-b) (ab d)))), .slice Z2 (ln (ab (nb (fr (-a) (-b) (ab d))))) cZ2, .slice Z3 (ln (nd (fr (-a) (-b) (ab d)))) cZ3], .int .i64 0]) (by simp [results, Tryz.results131, go_sem, r0, r1, r2, r3, r4, f0, f1, f2, f3, f4]) rfl (retNumCE_fin HW h9 (by omega) r0)

theorem rnew_any (a b d : Int) (w : World) (ha : -9223372036854775808 ≤ a ∧ a ≤ 9223372036854775807) (hb : -9223372036854775808 ≤ b ∧ b ≤ 9223372036854775807) (hd : -9223372036854775808 ≤ d ∧ d ≤ 9223372036854775807) (h : d ≠ 0) :
    Calls Tryz.prog 131 #[.int .i64 a, .int .i64 b, .int .i64 d] w (RetNumCE w 0 (frz a b d)) :=
  if h0 : 0 < d then rnew_pos a b d w ha hb hd h0 else rnew_neg a b d w ha hb hd (by omega)

end Go.Proofs.YtgpmlhpgdalheaaGreat

namespace Go.Proofs.YtgpmlhpgdalheaaGreat
open Go.RowKit Pl
set_option linter.unusedVariables false
set_option linter.unusedSimpArgs false

theorem half_forms {z : Int} {d : Nat} (hd : d ≠ 0) : ab z / Nat.gcd (ab z) d = ab (na (fr z 0 d)) ∧ d / Nat.gcd (ab z) d = nd (fr z 0 d) ∧ sn z = sn (na (fr z 0 d)) := by
  obtain ⟨f1, f2, f3, f4, f5⟩ := over_form (a := z) (b := 0) hd
  have e : gg z 0 d = Nat.gcd (ab z) d := by unfold gg ab; simp
  rw [e] at f2 f5
  exact ⟨f2.symm, f5.symm, f1.symm⟩

set_option maxHeartbeats 4000000 in
theorem rhalf_one1 (z : Int) (d : Nat) (A D : Option Addr) (cA cD : Nat) (w : World) (hx : Nat32 w A (ab z)) (hd : Nat32 w D d) (hbx : ln (ab z) ≤ 274877906944) (hbd : ln d ≤ 274877906944) (hd0 : d ≠ 0) (m : Nat) (hM : m = nd (fr z 0 d)) (hm : m = 1) (hs : sn z = true) :
    Calls Tryz.prog 113 #[.agg #[.bool (sn (z)), .slice A (ln (ab (z))) cA], .slice D (ln d) cD] w (RetStr w (partT (fr z 0 d))) := by
  obtain ⟨q, hq⟩ : ∃ q, q = fr z 0 d := ⟨_, rfl⟩
  have HF := half_forms (z := z) hd0
  have HZ : sz 274877906944 (fr z 0 d) := fr_sz hd0 hbx (by show ln 0 ≤ _; rw [ln_zero]; omega) hbd
  rw [← hq] at HF HZ hM ⊢
  rw [← hM] at HF
  have m0 : m ≠ 0 := by rw [hM]; exact nd_ne0 q
  have lm0 := ln_pos m0
  have zs := HZ.1
  have lm : ln m ≤ 274877906944 := by rw [hM]; exact HZ.2.2
  have z1 : (dec (ab (na q))).size ≤ 17592186044416 := by have := dec_size (ab (na q)); omega
  have z2 : (dec m).size ≤ 17592186044416 := by have := dec_size m; omega
  have g0 : Nat.gcd (ab z) d ≠ 0 := by intro e; exact hd0 (Nat.eq_zero_of_gcd_eq_zero_right e)
  have gl : ln (Nat.gcd (ab z) d) ≤ 1099511627776 := Nat.le_trans (ln_mono (Nat.le_of_dvd (Nat.pos_of_ne_zero hd0) (Nat.gcd_dvd_right _ _))) (Nat.le_trans hbd (by omega))
  have HX : Hid (ln (ab z) ≤ 1099511627776) := Lib.hid (Nat.le_trans hbx (by omega))
  have HD : Hid (ln d ≤ 1099511627776) := Lib.hid (Nat.le_trans hbd (by omega))
  have HL : Hid (ln (ab (na q)) ≤ 1099511627776 ∧ ln m ≤ 1099511627776) := Lib.hid ⟨Nat.le_trans zs (by omega), Nat.le_trans lm (by omega)⟩
  have HG0 := Lib.hid g0
  have HGL := Lib.hid gl
  have HM := Lib.hid hM
  have T1 : Hid (((ln m : Int) == 1) = true) := Lib.hid (one_len hm)
  have T2 : Hid (((wd m 0 : Int) == 1) = true) := Lib.hid (one_wd hm)
  have HU : Hid (un q = 0) := Lib.hid (un_one (by rw [← hM]; exact hm))
  have HE := Lib.hid HF
  clear hm HF hq HZ zs lm hM m0 hbx hbd hd0 g0 gl
  have HLM := Lib.hid lm0
  clear lm0
  have HS := Lib.hid hs
  clear hs
  go_enter Tryz.func113, Tryz.ntmps113
  go_wp2_with fail
  obtain ⟨W, hW⟩ : ∃ W : World, W = (w.alloc (.cells #[.bool (sn (z)), .slice A (ln (ab (z))) cA] 32)) := ⟨_, rfl⟩
  have s0_0 : W.cell? ⟨w.heap.size, 0, none⟩ = some (.bool (sn (z))) := by subst hW; go_simp
  have s0_1 : W.cell? ⟨w.heap.size, 1, none⟩ = some (.slice A (ln (ab (z))) cA) := by subst hW; go_simp
  have HW : Below w.heap.size w W := by subst hW; exact ((Below.refl w.heap.size w).alloc (Nat.le_refl _) _)
  have l0 : w.heap.size < W.heap.size := by subst hW; simp
  replace hx := hx.to HW
  replace hd := hd.to HW
  rw [← hW]
  clear hW
  replace HW := Lib.hid HW
  refine (rgcd_any (ab z) d A D cA cD _ (by exact hx) (by exact hd) HX.out HD.out).mono ?_
  rintro e w1 ⟨G, cG, rfl, hg, hb1⟩
  replace s0_0 := keepc hb1 s0_0 l0
  replace s0_1 := keepc hb1 s0_1 l0
  replace l0 := Nat.lt_of_lt_of_le l0 hb1.size
  replace hx := hx.to hb1
  replace hd := hd.to hb1
  replace HW := Lib.hid (hstep HW hb1)
  clear hb1
  go_wp2_with fail
  refine (rdiv_any (ab z) (Nat.gcd (ab z) d) A G cA cG _ (by exact hx) (by exact hg) HX.out HGL.out HG0.out).mono ?_
  rintro e w2 ⟨N, cN, R4, e4, rfl, hn, q4, hb2⟩
  replace s0_0 := keepc hb2 s0_0 l0
  replace s0_1 := keepc hb2 s0_1 l0
  replace l0 := Nat.lt_of_lt_of_le l0 hb2.size
  replace hx := hx.to hb2
  replace hd := hd.to hb2
  replace hg := hg.to hb2
  replace HW := Lib.hid (hstep HW hb2)
  clear hb2
  rw [HE.out.1] at hn ⊢
  clear q4
  go_wp2_with fail
  refine (rdiv_any d (Nat.gcd (ab z) d) D G cD cG _ (by exact hd) (by exact hg) HD.out HGL.out HG0.out).mono ?_
  rintro e w3 ⟨M, cM, R5, e5, rfl, hm, q5, hb3⟩
  replace s0_0 := keepc hb3 s0_0 l0
  replace s0_1 := keepc hb3 s0_1 l0
  replace l0 := Nat.lt_of_lt_of_le l0 hb3.size
  replace hx := hx.to hb3
  replace hd := hd.to hb3
  replace hg := hg.to hb3
  replace hn := hn.to hb3
  replace HW := Lib.hid (hstep HW hb3)
  clear hb3
  rw [HE.out.2.1] at hm ⊢
  clear q5
  go_wp2_with fail
  refine (rtext_any (ab (na q)) cN N _ (by exact hn) HL.out.1).mono ?_
  rintro e w4 ⟨rfl, hb4⟩
  replace s0_0 := keepc hb4 s0_0 l0
  replace s0_1 := keepc hb4 s0_1 l0
  replace l0 := Nat.lt_of_lt_of_le l0 hb4.size
  replace hx := hx.to hb4
  replace hd := hd.to hb4
  replace hg := hg.to hb4
  replace hn := hn.to hb4
  replace hm := hm.to hb4
  replace HW := Lib.hid (hstep HW hb4)
  clear hb4
  have k0 := s0_0
  rw [HS.out] at s0_0
  obtain ⟨bm, hM2, hbm, hcm⟩ := id hm (by have := HLM.out; intro e; rw [e, ln_zero] at this; omega)
  subst hM2
  have hmc := hcm 0 HLM.out
  have t1 := T1.out
  have t2 := T2.out
  clear hcm hbm
  go_wp2_with fail
  have hsn : sn (na q) = true := HE.out.2.2 ▸ HS.out
  have E : Hid (partT q = ⟨#[45]⟩ ++ dec (ab (na q))) := Lib.hid (by unfold partT sgT; simp [hsn, HU.out, ByteArray.append_assoc])
  rw [E.out]
  go_ret
  exact ⟨by first | rfl | simp [ByteArray.append_assoc], HW.out⟩

set_option maxHeartbeats 4000000 in
theorem rhalf_one0 (z : Int) (d : Nat) (A D : Option Addr) (cA cD : Nat) (w : World) (hx : Nat32 w A (ab z)) (hd : Nat32 w D d) (hbx : ln (ab z) ≤ 274877906944) (hbd : ln d ≤ 274877906944) (hd0 : d ≠ 0) (m : Nat) (hM : m = nd (fr z 0 d)) (hm : m = 1) (hs : sn z = false) :
    Calls Tryz.prog 113 #[.agg #[.bool (sn (z)), .slice A (ln (ab (z))) cA], .slice D (ln d) cD] w (RetStr w (partT (fr z 0 d))) := by
  obtain ⟨q, hq⟩ : ∃ q, q = fr z 0 d := ⟨_, rfl⟩
  have HF := half_forms (z := z) hd0
  have HZ : sz 274877906944 (fr z 0 d) := fr_sz hd0 hbx (by show ln 0 ≤ _; rw [ln_zero]; omega) hbd
  rw [← hq] at HF HZ hM ⊢
  rw [← hM] at HF
  have m0 : m ≠ 0 := by rw [hM]; exact nd_ne0 q
  have lm0 := ln_pos m0
  have zs := HZ.1
  have lm : ln m ≤ 274877906944 := by rw [hM]; exact HZ.2.2
  have z1 : (dec (ab (na q))).size ≤ 17592186044416 := by have := dec_size (ab (na q)); omega
  have z2 : (dec m).size ≤ 17592186044416 := by have := dec_size m; omega
  have g0 : Nat.gcd (ab z) d ≠ 0 := by intro e; exact hd0 (Nat.eq_zero_of_gcd_eq_zero_right e)
  have gl : ln (Nat.gcd (ab z) d) ≤ 1099511627776 := Nat.le_trans (ln_mono (Nat.le_of_dvd (Nat.pos_of_ne_zero hd0) (Nat.gcd_dvd_right _ _))) (Nat.le_trans hbd (by omega))
  have HX : Hid (ln (ab z) ≤ 1099511627776) := Lib.hid (Nat.le_trans hbx (by omega))
  have HD : Hid (ln d ≤ 1099511627776) := Lib.hid (Nat.le_trans hbd (by omega))
  have HL : Hid (ln (ab (na q)) ≤ 1099511627776 ∧ ln m ≤ 1099511627776) := Lib.hid ⟨Nat.le_trans zs (by omega), Nat.le_trans lm (by omega)⟩
  have HG0 := Lib.hid g0
  have HGL := Lib.hid gl
  have HM := Lib.hid hM
  have T1 : Hid (((ln m : Int) == 1) = true) := Lib.hid (one_len hm)
  have T2 : Hid (((wd m 0 : Int) == 1) = true) := Lib.hid (one_wd hm)
  have HU : Hid (un q = 0) := Lib.hid (un_one (by rw [← hM]; exact hm))
  have HE := Lib.hid HF
  clear hm HF hq HZ zs lm hM m0 hbx hbd hd0 g0 gl
  have HLM := Lib.hid lm0
  clear lm0
  have HS := Lib.hid hs
  clear hs
  go_enter Tryz.func113, Tryz.ntmps113
  go_wp2_with fail
  obtain ⟨W, hW⟩ : ∃ W : World, W = (w.alloc (.cells #[.bool (sn (z)), .slice A (ln (ab (z))) cA] 32)) := ⟨_, rfl⟩
  have s0_0 : W.cell? ⟨w.heap.size, 0, none⟩ = some (.bool (sn (z))) := by subst hW; go_simp
  have s0_1 : W.cell? ⟨w.heap.size, 1, none⟩ = some (.slice A (ln (ab (z))) cA) := by subst hW; go_simp
  have HW : Below w.heap.size w W := by subst hW; exact ((Below.refl w.heap.size w).alloc (Nat.le_refl _) _)
  have l0 : w.heap.size < W.heap.size := by subst hW; simp
  replace hx := hx.to HW
  replace hd := hd.to HW
  rw [← hW]
  clear hW
  replace HW := Lib.hid HW
  refine (rgcd_any (ab z) d A D cA cD _ (by exact hx) (by exact hd) HX.out HD.out).mono ?_
  rintro e w1 ⟨G, cG, rfl, hg, hb1⟩
  replace s0_0 := keepc hb1 s0_0 l0
  replace s0_1 := keepc hb1 s0_1 l0
  replace l0 := Nat.lt_of_lt_of_le l0 hb1.size
  replace hx := hx.to hb1
  replace hd := hd.to hb1
  replace HW := Lib.hid (hstep HW hb1)
  clear hb1
  go_wp2_with fail
  refine (rdiv_any (ab z) (Nat.gcd (ab z) d) A G cA cG _ (by exact hx) (by exact hg) HX.out HGL.out HG0.out).mono ?_
  rintro e w2 ⟨N, cN, R4, e4, rfl, hn, q4, hb2⟩
  replace s0_0 := keepc hb2 s0_0 l0
  replace s0_1 := keepc hb2 s0_1 l0
  replace l0 := Nat.lt_of_lt_of_le l0 hb2.size
  replace hx := hx.to hb2
  replace hd := hd.to hb2
  replace hg := hg.to hb2
  replace HW := Lib.hid (hstep HW hb2)
  clear hb2
  rw [HE.out.1] at hn ⊢
  clear q4
  go_wp2_with fail
  refine (rdiv_any d (Nat.gcd (ab z) d) D G cD cG _ (by exact hd) (by exact hg) HD.out HGL.out HG0.out).mono ?_
  rintro e w3 ⟨M, cM, R5, e5, rfl, hm, q5, hb3⟩
  replace s0_0 := keepc hb3 s0_0 l0
  replace s0_1 := keepc hb3 s0_1 l0
  replace l0 := Nat.lt_of_lt_of_le l0 hb3.size
  replace hx := hx.to hb3
  replace hd := hd.to hb3
  replace hg := hg.to hb3
  replace hn := hn.to hb3
  replace HW := Lib.hid (hstep HW hb3)
  clear hb3
  rw [HE.out.2.1] at hm ⊢
  clear q5
  go_wp2_with fail
  refine (rtext_any (ab (na q)) cN N _ (by exact hn) HL.out.1).mono ?_
  rintro e w4 ⟨rfl, hb4⟩
  replace s0_0 := keepc hb4 s0_0 l0
  replace s0_1 := keepc hb4 s0_1 l0
  replace l0 := Nat.lt_of_lt_of_le l0 hb4.size
  replace hx := hx.to hb4
  replace hd := hd.to hb4
  replace hg := hg.to hb4
  replace hn := hn.to hb4
  replace hm := hm.to hb4
  replace HW := Lib.hid (hstep HW hb4)
  clear hb4
  have k0 := s0_0
  rw [HS.out] at s0_0
  obtain ⟨bm, hM2, hbm, hcm⟩ := id hm (by have := HLM.out; intro e; rw [e, ln_zero] at this; omega)
  subst hM2
  have hmc := hcm 0 HLM.out
  have t1 := T1.out
  have t2 := T2.out
  clear hcm hbm
  go_wp2_with fail
  have hsn : sn (na q) = false := HE.out.2.2 ▸ HS.out
  have E : Hid (partT q = dec (ab (na q))) := Lib.hid (by unfold partT sgT; simp [hsn, HU.out, ByteArray.append_assoc])
  rw [E.out]
  go_ret
  exact ⟨by first | rfl | simp [ByteArray.append_assoc], HW.out⟩

set_option maxHeartbeats 4000000 in
theorem rhalf_few1 (z : Int) (d : Nat) (A D : Option Addr) (cA cD : Nat) (w : World) (hx : Nat32 w A (ab z)) (hd : Nat32 w D d) (hbx : ln (ab z) ≤ 274877906944) (hbd : ln d ≤ 274877906944) (hd0 : d ≠ 0) (m : Nat) (hM : m = nd (fr z 0 d)) (hm : m ≠ 1) (hl : ln m = 1) (hs : sn z = true) :
    Calls Tryz.prog 113 #[.agg #[.bool (sn (z)), .slice A (ln (ab (z))) cA], .slice D (ln d) cD] w (RetStr w (partT (fr z 0 d))) := by
  obtain ⟨q, hq⟩ : ∃ q, q = fr z 0 d := ⟨_, rfl⟩
  have HF := half_forms (z := z) hd0
  have HZ : sz 274877906944 (fr z 0 d) := fr_sz hd0 hbx (by show ln 0 ≤ _; rw [ln_zero]; omega) hbd
  rw [← hq] at HF HZ hM ⊢
  rw [← hM] at HF
  have m0 : m ≠ 0 := by rw [hM]; exact nd_ne0 q
  have lm0 := ln_pos m0
  have zs := HZ.1
  have lm : ln m ≤ 274877906944 := by rw [hM]; exact HZ.2.2
  have z1 : (dec (ab (na q))).size ≤ 17592186044416 := by have := dec_size (ab (na q)); omega
  have z2 : (dec m).size ≤ 17592186044416 := by have := dec_size m; omega
  have g0 : Nat.gcd (ab z) d ≠ 0 := by intro e; exact hd0 (Nat.eq_zero_of_gcd_eq_zero_right e)
  have gl : ln (Nat.gcd (ab z) d) ≤ 1099511627776 := Nat.le_trans (ln_mono (Nat.le_of_dvd (Nat.pos_of_ne_zero hd0) (Nat.gcd_dvd_right _ _))) (Nat.le_trans hbd (by omega))
  have HX : Hid (ln (ab z) ≤ 1099511627776) := Lib.hid (Nat.le_trans hbx (by omega))
  have HD : Hid (ln d ≤ 1099511627776) := Lib.hid (Nat.le_trans hbd (by omega))
  have HL : Hid (ln (ab (na q)) ≤ 1099511627776 ∧ ln m ≤ 1099511627776) := Lib.hid ⟨Nat.le_trans zs (by omega), Nat.le_trans lm (by omega)⟩
  have HG0 := Lib.hid g0
  have HGL := Lib.hid gl
  have HM := Lib.hid hM
  have T1 : Hid (((ln m : Int) == 1) = true) := Lib.hid (by rw [hl]; rfl)
  have T2 : Hid (((wd m 0 : Int) == 1) = false) := Lib.hid (few_wd hm hl)
  have HU : Hid (un q ≠ 0 ∧ un q = m) := Lib.hid (by have e := un_more (q := q) (by rw [← hM]; exact hm); rw [e, ← hM]; exact ⟨m0, rfl⟩)
  have HE := Lib.hid HF
  clear hm HF hq HZ zs lm hM m0 hbx hbd hd0 g0 gl hl
  have HLM := Lib.hid lm0
  clear lm0
  have HS := Lib.hid hs
  clear hs
  go_enter Tryz.func113, Tryz.ntmps113
  go_wp2_with fail
  obtain ⟨W, hW⟩ : ∃ W : World, W = (w.alloc (.cells #[.bool (sn (z)), .slice A (ln (ab (z))) cA] 32)) := ⟨_, rfl⟩
  have s0_0 : W.cell? ⟨w.heap.size, 0, none⟩ = some (.bool (sn (z))) := by subst hW; go_simp
  have s0_1 : W.cell? ⟨w.heap.size, 1, none⟩ = some (.slice A (ln (ab (z))) cA) := by subst hW; go_simp
  have HW : Below w.heap.size w W := by subst hW; exact ((Below.refl w.heap.size w).alloc (Nat.le_refl _) _)
  have l0 : w.heap.size < W.heap.size := by subst hW; simp
  replace hx := hx.to HW
  replace hd := hd.to HW
  rw [← hW]
  clear hW
  replace HW := Lib.hid HW
  refine (rgcd_any (ab z) d A D cA cD _ (by exact hx) (by exact hd) HX.out HD.out).mono ?_
  rintro e w1 ⟨G, cG, rfl, hg, hb1⟩
  replace s0_0 := keepc hb1 s0_0 l0
  replace s0_1 := keepc hb1 s0_1 l0
  replace l0 := Nat.lt_of_lt_of_le l0 hb1.size
  replace hx := hx.to hb1
  replace hd := hd.to hb1
  replace HW := Lib.hid (hstep HW hb1)
  clear hb1
  go_wp2_with fail
  refine (rdiv_any (ab z) (Nat.gcd (ab z) d) A G cA cG _ (by exact hx) (by exact hg) HX.out HGL.out HG0.out).mono ?_
  rintro e w2 ⟨N, cN, R4, e4, rfl, hn, q4, hb2⟩
  replace s0_0 := keepc hb2 s0_0 l0
  replace s0_1 := keepc hb2 s0_1 l0
  replace l0 := Nat.lt_of_lt_of_le l0 hb2.size
  replace hx := hx.to hb2
  replace hd := hd.to hb2
  replace hg := hg.to hb2
  replace HW := Lib.hid (hstep HW hb2)
  clear hb2
  rw [HE.out.1] at hn ⊢
  clear q4
  go_wp2_with fail
  refine (rdiv_any d (Nat.gcd (ab z) d) D G cD cG _ (by exact hd) (by exact hg) HD.out HGL.out HG0.out).mono ?_
  rintro e w3 ⟨M, cM, R5, e5, rfl, hm, q5, hb3⟩
  replace s0_0 := keepc hb3 s0_0 l0
  replace s0_1 := keepc hb3 s0_1 l0
  replace l0 := Nat.lt_of_lt_of_le l0 hb3.size
  replace hx := hx.to hb3
  replace hd := hd.to hb3
  replace hg := hg.to hb3
  replace hn := hn.to hb3
  replace HW := Lib.hid (hstep HW hb3)
  clear hb3
  rw [HE.out.2.1] at hm ⊢
  clear q5
  go_wp2_with fail
  refine (rtext_any (ab (na q)) cN N _ (by exact hn) HL.out.1).mono ?_
  rintro e w4 ⟨rfl, hb4⟩
  replace s0_0 := keepc hb4 s0_0 l0
  replace s0_1 := keepc hb4 s0_1 l0
  replace l0 := Nat.lt_of_lt_of_le l0 hb4.size
  replace hx := hx.to hb4
  replace hd := hd.to hb4
  replace hg := hg.to hb4
  replace hn := hn.to hb4
  replace hm := hm.to hb4
  replace HW := Lib.hid (hstep HW hb4)
  clear hb4
  have k0 := s0_0
  rw [HS.out] at s0_0
  obtain ⟨bm, hM2, hbm, hcm⟩ := id hm (by have := HLM.out; intro e; rw [e, ln_zero] at this; omega)
  subst hM2
  have hmc := hcm 0 HLM.out
  have t1 := T1.out
  have t2 := T2.out
  clear hcm hbm
  go_wp2_with fail
  clear t1 hmc s0_0 t2
  refine (rtext_any m cM (some ⟨bm, 0, none⟩) _ (by exact hm) HL.out.2).mono ?_
  rintro e w9 ⟨rfl, hb9⟩; replace HW := Lib.hid (hstep HW hb9); clear hb9
  go_wp2_with fail
  have hsn : sn (na q) = true := HE.out.2.2 ▸ HS.out
  have hm0 : m ≠ 0 := by have := HLM.out; intro e; rw [e, ln_zero] at this; omega
  have E : Hid (partT q = ⟨#[45]⟩ ++ dec (ab (na q)) ++ (⟨#[47]⟩ ++ dec m)) := Lib.hid (by unfold partT sgT; simp [hsn, HU.out.2, hm0, ByteArray.append_assoc])
  rw [E.out]
  go_ret
  exact ⟨by first | rfl | simp [ByteArray.append_assoc], HW.out⟩

set_option maxHeartbeats 4000000 in
theorem rhalf_few0 (z : Int) (d : Nat) (A D : Option Addr) (cA cD : Nat) (w : World) (hx : Nat32 w A (ab z)) (hd : Nat32 w D d) (hbx : ln (ab z) ≤ 274877906944) (hbd : ln d ≤ 274877906944) (hd0 : d ≠ 0) (m : Nat) (hM : m = nd (fr z 0 d)) (hm : m ≠ 1) (hl : ln m = 1) (hs : sn z = false) :
    Calls Tryz.prog 113 #[.agg #[.bool (sn (z)), .slice A (ln (ab (z))) cA], .slice D (ln d) cD] w (RetStr w (partT (fr z 0 d))) := by
  obtain ⟨q, hq⟩ : ∃ q, q = fr z 0 d := ⟨_, rfl⟩
  have HF := half_forms (z := z) hd0
  have HZ : sz 274877906944 (fr z 0 d) := fr_sz hd0 hbx (by show ln 0 ≤ _; rw [ln_zero]; omega) hbd
  rw [← hq] at HF HZ hM ⊢
  rw [← hM] at HF
  have m0 : m ≠ 0 := by rw [hM]; exact nd_ne0 q
  have lm0 := ln_pos m0
  have zs := HZ.1
  have lm : ln m ≤ 274877906944 := by rw [hM]; exact HZ.2.2
  have z1 : (dec (ab (na q))).size ≤ 17592186044416 := by have := dec_size (ab (na q)); omega
  have z2 : (dec m).size ≤ 17592186044416 := by have := dec_size m; omega
  have g0 : Nat.gcd (ab z) d ≠ 0 := by intro e; exact hd0 (Nat.eq_zero_of_gcd_eq_zero_right e)
  have gl : ln (Nat.gcd (ab z) d) ≤ 1099511627776 := Nat.le_trans (ln_mono (Nat.le_of_dvd (Nat.pos_of_ne_zero hd0) (Nat.gcd_dvd_right _ _))) (Nat.le_trans hbd (by omega))
  have HX : Hid (ln (ab z) ≤ 1099511627776) := Lib.hid (Nat.le_trans hbx (by omega))
  have HD : Hid (ln d ≤ 1099511627776) := Lib.hid (Nat.le_trans hbd (by omega))
  have HL : Hid (ln (ab (na q)) ≤ 1099511627776 ∧ ln m ≤ 1099511627776) := Lib.hid ⟨Nat.le_trans zs (by omega), Nat.le_trans lm (by omega)⟩
  have HG0 := Lib.hid g0
  have HGL := Lib.hid gl
  have HM := Lib.hid hM
  have T1 : Hid (((ln m : Int) == 1) = true) := Lib.hid (by rw [hl]; rfl)
  have T2 : Hid (((wd m 0 : Int) == 1) = false) := Lib.hid (few_wd hm hl)
  have HU : Hid (un q ≠ 0 ∧ un q = m) := Lib.hid (by have e := un_more (q := q) (by rw [← hM]; exact hm); rw [e, ← hM]; exact ⟨m0, rfl⟩)
  have HE := Lib.hid HF
  clear hm HF hq HZ zs lm hM m0 hbx hbd hd0 g0 gl hl
  have HLM := Lib.hid lm0
  clear lm0
  have HS := Lib.hid hs
  clear hs
  go_enter Tryz.func113, Tryz.ntmps113
  go_wp2_with fail
  obtain ⟨W, hW⟩ : ∃ W : World, W = (w.alloc (.cells #[.bool (sn (z)), .slice A (ln (ab (z))) cA] 32)) := ⟨_, rfl⟩
  have s0_0 : W.cell? ⟨w.heap.size, 0, none⟩ = some (.bool (sn (z))) := by subst hW; go_simp
  have s0_1 : W.cell? ⟨w.heap.size, 1, none⟩ = some (.slice A (ln (ab (z))) cA) := by subst hW; go_simp
  have HW : Below w.heap.size w W := by subst hW; exact ((Below.refl w.heap.size w).alloc (Nat.le_refl _) _)
  have l0 : w.heap.size < W.heap.size := by subst hW; simp
  replace hx := hx.to HW
  replace hd := hd.to HW
  rw [← hW]
  clear hW
  replace HW := Lib.hid HW
  refine (rgcd_any (ab z) d A D cA cD _ (by exact hx) (by exact hd) HX.out HD.out).mono ?_
  rintro e w1 ⟨G, cG, rfl, hg, hb1⟩
  replace s0_0 := keepc hb1 s0_0 l0
  replace s0_1 := keepc hb1 s0_1 l0
  replace l0 := Nat.lt_of_lt_of_le l0 hb1.size
  replace hx := hx.to hb1
  replace hd := hd.to hb1
  replace HW := Lib.hid (hstep HW hb1)
  clear hb1
  go_wp2_with fail
  refine (rdiv_any (ab z) (Nat.gcd (ab z) d) A G cA cG _ (by exact hx) (by exact hg) HX.out HGL.out HG0.out).mono ?_
  rintro e w2 ⟨N, cN, R4, e4, rfl, hn, q4, hb2⟩
  replace s0_0 := keepc hb2 s0_0 l0
  replace s0_1 := keepc hb2 s0_1 l0
  replace l0 := Nat.lt_of_lt_of_le l0 hb2.size
  replace hx := hx.to hb2
  replace hd := hd.to hb2
  replace hg := hg.to hb2
  replace HW := Lib.hid (hstep HW hb2)
  clear hb2
  rw [HE.out.1] at hn ⊢
  clear q4
  go_wp2_with fail
  refine (rdiv_any d (Nat.gcd (ab z) d) D G cD cG _ (by exact hd) (by exact hg) HD.out HGL.out HG0.out).mono ?_
  rintro e w3 ⟨M, cM, R5, e5, rfl, hm, q5, hb3⟩
  replace s0_0 := keepc hb3 s0_0 l0
  replace s0_1 := keepc hb3 s0_1 l0
  replace l0 := Nat.lt_of_lt_of_le l0 hb3.size
  replace hx := hx.to hb3
  replace hd := hd.to hb3
  replace hg := hg.to hb3
  replace hn := hn.to hb3
  replace HW := Lib.hid (hstep HW hb3)
  clear hb3
  rw [HE.out.2.1] at hm ⊢
  clear q5
  go_wp2_with fail
  refine (rtext_any (ab (na q)) cN N _ (by exact hn) HL.out.1).mono ?_
  rintro e w4 ⟨rfl, hb4⟩
  replace s0_0 := keepc hb4 s0_0 l0
  replace s0_1 := keepc hb4 s0_1 l0
  replace l0 := Nat.lt_of_lt_of_le l0 hb4.size
  replace hx := hx.to hb4
  replace hd := hd.to hb4
  replace hg := hg.to hb4
  replace hn := hn.to hb4
  replace hm := hm.to hb4
  replace HW := Lib.hid (hstep HW hb4)
  clear hb4
  have k0 := s0_0
  rw [HS.out] at s0_0
  obtain ⟨bm, hM2, hbm, hcm⟩ := id hm (by have := HLM.out; intro e; rw [e, ln_zero] at this; omega)
  subst hM2
  have hmc := hcm 0 HLM.out
  have t1 := T1.out
  have t2 := T2.out
  clear hcm hbm
  go_wp2_with fail
  clear t1 hmc s0_0 t2
  refine (rtext_any m cM (some ⟨bm, 0, none⟩) _ (by exact hm) HL.out.2).mono ?_
  rintro e w9 ⟨rfl, hb9⟩; replace HW := Lib.hid (hstep HW hb9); clear hb9
  go_wp2_with fail
  have hsn : sn (na q) = false := HE.out.2.2 ▸ HS.out
  have hm0 : m ≠ 0 := by have := HLM.out; intro e; rw [e, ln_zero] at this; omega
  have E : Hid (partT q = dec (ab (na q)) ++ (⟨#[47]⟩ ++ dec m)) := Lib.hid (by unfold partT sgT; simp [hsn, HU.out.2, hm0, ByteArray.append_assoc])
  rw [E.out]
  go_ret
  exact ⟨by first | rfl | simp [ByteArray.append_assoc], HW.out⟩

set_option maxHeartbeats 4000000 in
theorem rhalf_many1 (z : Int) (d : Nat) (A D : Option Addr) (cA cD : Nat) (w : World) (hx : Nat32 w A (ab z)) (hd : Nat32 w D d) (hbx : ln (ab z) ≤ 274877906944) (hbd : ln d ≤ 274877906944) (hd0 : d ≠ 0) (m : Nat) (hM : m = nd (fr z 0 d)) (hm : m ≠ 1) (hl : ln m ≠ 1) (hs : sn z = true) :
    Calls Tryz.prog 113 #[.agg #[.bool (sn (z)), .slice A (ln (ab (z))) cA], .slice D (ln d) cD] w (RetStr w (partT (fr z 0 d))) := by
  obtain ⟨q, hq⟩ : ∃ q, q = fr z 0 d := ⟨_, rfl⟩
  have HF := half_forms (z := z) hd0
  have HZ : sz 274877906944 (fr z 0 d) := fr_sz hd0 hbx (by show ln 0 ≤ _; rw [ln_zero]; omega) hbd
  rw [← hq] at HF HZ hM ⊢
  rw [← hM] at HF
  have m0 : m ≠ 0 := by rw [hM]; exact nd_ne0 q
  have lm0 := ln_pos m0
  have zs := HZ.1
  have lm : ln m ≤ 274877906944 := by rw [hM]; exact HZ.2.2
  have z1 : (dec (ab (na q))).size ≤ 17592186044416 := by have := dec_size (ab (na q)); omega
  have z2 : (dec m).size ≤ 17592186044416 := by have := dec_size m; omega
  have g0 : Nat.gcd (ab z) d ≠ 0 := by intro e; exact hd0 (Nat.eq_zero_of_gcd_eq_zero_right e)
  have gl : ln (Nat.gcd (ab z) d) ≤ 1099511627776 := Nat.le_trans (ln_mono (Nat.le_of_dvd (Nat.pos_of_ne_zero hd0) (Nat.gcd_dvd_right _ _))) (Nat.le_trans hbd (by omega))
  have HX : Hid (ln (ab z) ≤ 1099511627776) := Lib.hid (Nat.le_trans hbx (by omega))
  have HD : Hid (ln d ≤ 1099511627776) := Lib.hid (Nat.le_trans hbd (by omega))
  have HL : Hid (ln (ab (na q)) ≤ 1099511627776 ∧ ln m ≤ 1099511627776) := Lib.hid ⟨Nat.le_trans zs (by omega), Nat.le_trans lm (by omega)⟩
  have HG0 := Lib.hid g0
  have HGL := Lib.hid gl
  have HM := Lib.hid hM
  have T1 : Hid (((ln m : Int) == 1) = false) := Lib.hid (by rw [beq_eq_false_iff_ne]; omega)
  have HU : Hid (un q ≠ 0 ∧ un q = m) := Lib.hid (by have e := un_more (q := q) (by rw [← hM]; exact hm); rw [e, ← hM]; exact ⟨m0, rfl⟩)
  have HE := Lib.hid HF
  clear hm HF hq HZ zs lm hM m0 hbx hbd hd0 g0 gl hl
  have HLM := Lib.hid lm0
  clear lm0
  have HS := Lib.hid hs
  clear hs
  go_enter Tryz.func113, Tryz.ntmps113
  go_wp2_with fail
  obtain ⟨W, hW⟩ : ∃ W : World, W = (w.alloc (.cells #[.bool (sn (z)), .slice A (ln (ab (z))) cA] 32)) := ⟨_, rfl⟩
  have s0_0 : W.cell? ⟨w.heap.size, 0, none⟩ = some (.bool (sn (z))) := by subst hW; go_simp
  have s0_1 : W.cell? ⟨w.heap.size, 1, none⟩ = some (.slice A (ln (ab (z))) cA) := by subst hW; go_simp
  have HW : Below w.heap.size w W := by subst hW; exact ((Below.refl w.heap.size w).alloc (Nat.le_refl _) _)
  have l0 : w.heap.size < W.heap.size := by subst hW; simp
  replace hx := hx.to HW
  replace hd := hd.to HW
  rw [← hW]
  clear hW
  replace HW := Lib.hid HW
  refine (rgcd_any (ab z) d A D cA cD _ (by exact hx) (by exact hd) HX.out HD.out).mono ?_
  rintro e w1 ⟨G, cG, rfl, hg, hb1⟩
  replace s0_0 := keepc hb1 s0_0 l0
  replace s0_1 := keepc hb1 s0_1 l0
  replace l0 := Nat.lt_of_lt_of_le l0 hb1.size
  replace hx := hx.to hb1
  replace hd := hd.to hb1
  replace HW := Lib.hid (hstep HW hb1)
  clear hb1
  go_wp2_with fail
  refine (rdiv_any (ab z) (Nat.gcd (ab z) d) A G cA cG _ (by exact hx) (by exact hg) HX.out HGL.out HG0.out).mono ?_
  rintro e w2 ⟨N, cN, R4, e4, rfl, hn, q4, hb2⟩
  replace s0_0 := keepc hb2 s0_0 l0
  replace s0_1 := keepc hb2 s0_1 l0
  replace l0 := Nat.lt_of_lt_of_le l0 hb2.size
  replace hx := hx.to hb2
  replace hd := hd.to hb2
  replace hg := hg.to hb2
  replace HW := Lib.hid (hstep HW hb2)
  clear hb2
  rw [HE.out.1] at hn ⊢
  clear q4
  go_wp2_with fail
  refine (rdiv_any d (Nat.gcd (ab z) d) D G cD cG _ (by exact hd) (by exact hg) HD.out HGL.out HG0.out).mono ?_
  rintro e w3 ⟨M, cM, R5, e5, rfl, hm, q5, hb3⟩
  replace s0_0 := keepc hb3 s0_0 l0
  replace s0_1 := keepc hb3 s0_1 l0
  replace l0 := Nat.lt_of_lt_of_le l0 hb3.size
  replace hx := hx.to hb3
  replace hd := hd.to hb3
  replace hg := hg.to hb3
  replace hn := hn.to hb3
  replace HW := Lib.hid (hstep HW hb3)
  clear hb3
  rw [HE.out.2.1] at hm ⊢
  clear q5
  go_wp2_with fail
  refine (rtext_any (ab (na q)) cN N _ (by exact hn) HL.out.1).mono ?_
  rintro e w4 ⟨rfl, hb4⟩
  replace s0_0 := keepc hb4 s0_0 l0
  replace s0_1 := keepc hb4 s0_1 l0
  replace l0 := Nat.lt_of_lt_of_le l0 hb4.size
  replace hx := hx.to hb4
  replace hd := hd.to hb4
  replace hg := hg.to hb4
  replace hn := hn.to hb4
  replace hm := hm.to hb4
  replace HW := Lib.hid (hstep HW hb4)
  clear hb4
  have k0 := s0_0
  rw [HS.out] at s0_0
  obtain ⟨bm, hM2, hbm, hcm⟩ := id hm (by have := HLM.out; intro e; rw [e, ln_zero] at this; omega)
  subst hM2
  have hmc := hcm 0 HLM.out
  have t1 := T1.out
  clear hcm hbm
  go_wp2_with fail
  clear t1 hmc s0_0
  refine (rtext_any m cM (some ⟨bm, 0, none⟩) _ (by exact hm) HL.out.2).mono ?_
  rintro e w9 ⟨rfl, hb9⟩; replace HW := Lib.hid (hstep HW hb9); clear hb9
  go_wp2_with fail
  have hsn : sn (na q) = true := HE.out.2.2 ▸ HS.out
  have hm0 : m ≠ 0 := by have := HLM.out; intro e; rw [e, ln_zero] at this; omega
  have E : Hid (partT q = ⟨#[45]⟩ ++ dec (ab (na q)) ++ (⟨#[47]⟩ ++ dec m)) := Lib.hid (by unfold partT sgT; simp [hsn, HU.out.2, hm0, ByteArray.append_assoc])
  rw [E.out]
  go_ret
  exact ⟨by first | rfl | simp [ByteArray.append_assoc], HW.out⟩

set_option maxHeartbeats 4000000 in
theorem rhalf_many0 (z : Int) (d : Nat) (A D : Option Addr) (cA cD : Nat) (w : World) (hx : Nat32 w A (ab z)) (hd : Nat32 w D d) (hbx : ln (ab z) ≤ 274877906944) (hbd : ln d ≤ 274877906944) (hd0 : d ≠ 0) (m : Nat) (hM : m = nd (fr z 0 d)) (hm : m ≠ 1) (hl : ln m ≠ 1) (hs : sn z = false) :
    Calls Tryz.prog 113 #[.agg #[.bool (sn (z)), .slice A (ln (ab (z))) cA], .slice D (ln d) cD] w (RetStr w (partT (fr z 0 d))) := by
  obtain ⟨q, hq⟩ : ∃ q, q = fr z 0 d := ⟨_, rfl⟩
  have HF := half_forms (z := z) hd0
  have HZ : sz 274877906944 (fr z 0 d) := fr_sz hd0 hbx (by show ln 0 ≤ _; rw [ln_zero]; omega) hbd
  rw [← hq] at HF HZ hM ⊢
  rw [← hM] at HF
  have m0 : m ≠ 0 := by rw [hM]; exact nd_ne0 q
  have lm0 := ln_pos m0
  have zs := HZ.1
  have lm : ln m ≤ 274877906944 := by rw [hM]; exact HZ.2.2
  have z1 : (dec (ab (na q))).size ≤ 17592186044416 := by have := dec_size (ab (na q)); omega
  have z2 : (dec m).size ≤ 17592186044416 := by have := dec_size m; omega
  have g0 : Nat.gcd (ab z) d ≠ 0 := by intro e; exact hd0 (Nat.eq_zero_of_gcd_eq_zero_right e)
  have gl : ln (Nat.gcd (ab z) d) ≤ 1099511627776 := Nat.le_trans (ln_mono (Nat.le_of_dvd (Nat.pos_of_ne_zero hd0) (Nat.gcd_dvd_right _ _))) (Nat.le_trans hbd (by omega))
  have HX : Hid (ln (ab z) ≤ 1099511627776) := Lib.hid (Nat.le_trans hbx (by omega))
  have HD : Hid (ln d ≤ 1099511627776) := Lib.hid (Nat.le_trans hbd (by omega))
  have HL : Hid (ln (ab (na q)) ≤ 1099511627776 ∧ ln m ≤ 1099511627776) := Lib.hid ⟨Nat.le_trans zs (by omega), Nat.le_trans lm (by omega)⟩
  have HG0 := Lib.hid g0
  have HGL := Lib.hid gl
  have HM := Lib.hid hM
  have T1 : Hid (((ln m : Int) == 1) = false) := Lib.hid (by rw [beq_eq_false_iff_ne]; omega)
  have HU : Hid (un q ≠ 0 ∧ un q = m) := Lib.hid (by have e := un_more (q := q) (by rw [← hM]; exact hm); rw [e, ← hM]; exact ⟨m0, rfl⟩)
  have HE := Lib.hid HF
  clear hm HF hq HZ zs lm hM m0 hbx hbd hd0 g0 gl hl
  have HLM := Lib.hid lm0
  clear lm0
  have HS := Lib.hid hs
  clear hs
  go_enter Tryz.func113, Tryz.ntmps113
  go_wp2_with fail
  obtain ⟨W, hW⟩ : ∃ W : World, W = (w.alloc (.cells #[.bool (sn (z)), .slice A (ln (ab (z))) cA] 32)) := ⟨_, rfl⟩
  have s0_0 : W.cell? ⟨w.heap.size, 0, none⟩ = some (.bool (sn (z))) := by subst hW; go_simp
  have s0_1 : W.cell? ⟨w.heap.size, 1, none⟩ = some (.slice A (ln (ab (z))) cA) := by subst hW; go_simp
  have HW : Below w.heap.size w W := by subst hW; exact ((Below.refl w.heap.size w).alloc (Nat.le_refl _) _)
  have l0 : w.heap.size < W.heap.size := by subst hW; simp
  replace hx := hx.to HW
  replace hd := hd.to HW
  rw [← hW]
  clear hW
  replace HW := Lib.hid HW
  refine (rgcd_any (ab z) d A D cA cD _ (by exact hx) (by exact hd) HX.out HD.out).mono ?_
  rintro e w1 ⟨G, cG, rfl, hg, hb1⟩
  replace s0_0 := keepc hb1 s0_0 l0
  replace s0_1 := keepc hb1 s0_1 l0
  replace l0 := Nat.lt_of_lt_of_le l0 hb1.size
  replace hx := hx.to hb1
  replace hd := hd.to hb1
  replace HW := Lib.hid (hstep HW hb1)
  clear hb1
  go_wp2_with fail
  refine (rdiv_any (ab z) (Nat.gcd (ab z) d) A G cA cG _ (by exact hx) (by exact hg) HX.out HGL.out HG0.out).mono ?_
  rintro e w2 ⟨N, cN, R4, e4, rfl, hn, q4, hb2⟩
  replace s0_0 := keepc hb2 s0_0 l0
  replace s0_1 := keepc hb2 s0_1 l0
  replace l0 := Nat.lt_of_lt_of_le l0 hb2.size
  replace hx := hx.to hb2
  replace hd := hd.to hb2
  replace hg := hg.to hb2
  replace HW := Lib.hid (hstep HW hb2)
  clear hb2
  rw [HE.out.1] at hn ⊢
  clear q4
  go_wp2_with fail
  refine (rdiv_any d (Nat.gcd (ab z) d) D G cD cG _ (by exact hd) (by exact hg) HD.out HGL.out HG0.out).mono ?_
  rintro e w3 ⟨M, cM, R5, e5, rfl, hm, q5, hb3⟩
  replace s0_0 := keepc hb3 s0_0 l0
  replace s0_1 := keepc hb3 s0_1 l0
  replace l0 := Nat.lt_of_lt_of_le l0 hb3.size
  replace hx := hx.to hb3
  replace hd := hd.to hb3
  replace hg := hg.to hb3
  replace hn := hn.to hb3
  replace HW := Lib.hid (hstep HW hb3)
  clear hb3
  rw [HE.out.2.1] at hm ⊢
  clear q5
  go_wp2_with fail
  refine (rtext_any (ab (na q)) cN N _ (by exact hn) HL.out.1).mono ?_
  rintro e w4 ⟨rfl, hb4⟩
  replace s0_0 := keepc hb4 s0_0 l0
  replace s0_1 := keepc hb4 s0_1 l0
  replace l0 := Nat.lt_of_lt_of_le l0 hb4.size
  replace hx := hx.to hb4
  replace hd := hd.to hb4
  replace hg := hg.to hb4
  replace hn := hn.to hb4
  replace hm := hm.to hb4
  replace HW := Lib.hid (hstep HW hb4)
  clear hb4
  have k0 := s0_0
  rw [HS.out] at s0_0
  obtain ⟨bm, hM2, hbm, hcm⟩ := id hm (by have := HLM.out; intro e; rw [e, ln_zero] at this; omega)
  subst hM2
  have hmc := hcm 0 HLM.out
  have t1 := T1.out
  clear hcm hbm
  go_wp2_with fail
  clear t1 hmc s0_0
  refine (rtext_any m cM (some ⟨bm, 0, none⟩) _ (by exact hm) HL.out.2).mono ?_
  rintro e w9 ⟨rfl, hb9⟩; replace HW := Lib.hid (hstep HW hb9); clear hb9
  go_wp2_with fail
  have hsn : sn (na q) = false := HE.out.2.2 ▸ HS.out
  have hm0 : m ≠ 0 := by have := HLM.out; intro e; rw [e, ln_zero] at this; omega
  have E : Hid (partT q = dec (ab (na q)) ++ (⟨#[47]⟩ ++ dec m)) := Lib.hid (by unfold partT sgT; simp [hsn, HU.out.2, hm0, ByteArray.append_assoc])
  rw [E.out]
  go_ret
  exact ⟨by first | rfl | simp [ByteArray.append_assoc], HW.out⟩

/-- 'half(z, d)', d not 0. -/
theorem rhalf_any (z : Int) (d : Nat) (A D : Option Addr) (cA cD : Nat) (w : World) (hx : Nat32 w A (ab z)) (hd : Nat32 w D d) (hbx : ln (ab z) ≤ 274877906944) (hbd : ln d ≤ 274877906944) (hd0 : d ≠ 0) :
    Calls Tryz.prog 113 #[.agg #[.bool (sn (z)), .slice A (ln (ab (z))) cA], .slice D (ln d) cD] w (RetStr w (partT (fr z 0 d))) := by
  by_cases hm : nd (fr z 0 d) = 1
  · cases hs : sn z with
    | true => have := rhalf_one1 z d A D cA cD w hx hd hbx hbd hd0 _ rfl hm hs; rwa [hs] at this
    | false => have := rhalf_one0 z d A D cA cD w hx hd hbx hbd hd0 _ rfl hm hs; rwa [hs] at this
  · by_cases hl : ln (nd (fr z 0 d)) = 1
    · cases hs : sn z with
      | true => have := rhalf_few1 z d A D cA cD w hx hd hbx hbd hd0 _ rfl hm hl hs; rwa [hs] at this
      | false => have := rhalf_few0 z d A D cA cD w hx hd hbx hbd hd0 _ rfl hm hl hs; rwa [hs] at this
    · cases hs : sn z with
      | true => have := rhalf_many1 z d A D cA cD w hx hd hbx hbd hd0 _ rfl hm hl hs; rwa [hs] at this
      | false => have := rhalf_many0 z d A D cA cD w hx hd hbx hbd hd0 _ rfl hm hl hs; rwa [hs] at this

end Go.Proofs.YtgpmlhpgdalheaaGreat

namespace Go.Proofs.YtgpmlhpgdalheaaGreat
open Go.RowKit Pl
set_option linter.unusedVariables false
set_option linter.unusedSimpArgs false

set_option maxHeartbeats 4000000 in
theorem rtext_real (x : Cx) (A1 A2 A3 : Option Addr) (cA1 cA2 cA3 : Nat) (w : World) (hx : Num3C w A1 A2 A3 x) (hs : sz 274877906944 x) (h : nb x = 0) :
    Calls Tryz.prog 55 #[.agg #[.bool (sn (na x)), .slice A1 (ln (ab (na x))) cA1, .bool (sn (nb x)), .slice A2 (ln (ab (nb x))) cA2, .slice A3 (ln (nd x)) cA3]] w (RetStr w (textT x)) := by
  have HS : Hid (sz 274877906944 x) := Lib.hid hs
  have HT : Hid (textT x = partT (fr (na x) 0 (nd x))) := Lib.hid (by unfold textT; simp [h])
  have t1 : ((ln (ab (nb x)) : Int) == 0) = true := by rw [h, show ab 0 = 0 from rfl, ln_zero]; rfl
  have zr : (partT (fr (na x) 0 (nd x))).size ≤ 70368744177664 := partT_size (fr_sz (nd_ne0 x) (Nat.le_trans hs.1 (by omega)) (by show ln 0 ≤ _; rw [ln_zero]; omega) (Nat.le_trans hs.2.2 (by omega)))
  have zi : (partT (fr (nb x) 0 (nd x))).size ≤ 70368744177664 := partT_size (fr_sz (nd_ne0 x) (Nat.le_trans hs.2.1 (by omega)) (by show ln 0 ≤ _; rw [ln_zero]; omega) (Nat.le_trans hs.2.2 (by omega)))
  have y1 : ¬ (9223372036854775807 < (partT (fr (nb x) 0 (nd x))).size + 1) := by omega
  have y2 : ¬ (9223372036854775807 < (partT (fr (na x) 0 (nd x))).size + 1) := by omega
  have y3 : ¬ (9223372036854775807 < (partT (fr (na x) 0 (nd x))).size + (partT (fr (nb x) 0 (nd x))).size) := by omega
  have y4 : ¬ (9223372036854775807 < (partT (fr (na x) 0 (nd x))).size + (partT (fr (nb x) 0 (nd x))).size + 1) := by omega
  have y5 : ¬ (9223372036854775807 < (partT (fr (na x) 0 (nd x))).size + 1 + (partT (fr (nb x) 0 (nd x))).size) := by omega
  have y6 : ¬ (9223372036854775807 < (partT (fr (na x) 0 (nd x))).size + 1 + (partT (fr (nb x) 0 (nd x))).size + 1) := by omega
  rw [HT.out]
  clear h hs
  go_enter Tryz.func55, Tryz.ntmps55
  go_wp2_with fail
  obtain ⟨W, hW⟩ : ∃ W : World, W = (w.alloc (.cells #[.bool (sn (na x)), .slice A1 (ln (ab (na x))) cA1, .bool (sn (nb x)), .slice A2 (ln (ab (nb x))) cA2, .slice A3 (ln (nd x)) cA3] 34)) := ⟨_, rfl⟩
  have s0_0 : W.cell? ⟨w.heap.size, 0, none⟩ = some (.bool (sn (na x))) := by subst hW; go_simp
  have s0_1 : W.cell? ⟨w.heap.size, 1, none⟩ = some (.slice A1 (ln (ab (na x))) cA1) := by subst hW; go_simp
  have s0_2 : W.cell? ⟨w.heap.size, 2, none⟩ = some (.bool (sn (nb x))) := by subst hW; go_simp
  have s0_3 : W.cell? ⟨w.heap.size, 3, none⟩ = some (.slice A2 (ln (ab (nb x))) cA2) := by subst hW; go_simp
  have s0_4 : W.cell? ⟨w.heap.size, 4, none⟩ = some (.slice A3 (ln (nd x)) cA3) := by subst hW; go_simp
  have HW : Below w.heap.size w W := by subst hW; exact ((Below.refl w.heap.size w).alloc (Nat.le_refl _) _)
  have l0 : w.heap.size < W.heap.size := by subst hW; simp
  replace hx := hx.to HW
  rw [← hW]
  clear hW
  replace HW := Lib.hid HW
  refine (rhalf_any (na x) (nd x) A1 A3 cA1 cA3 _ (by exact hx.1) (by exact hx.2.2) HS.out.1 HS.out.2.2 (nd_ne0 x)).mono ?_
  rintro e w1 ⟨rfl, hb1⟩
  replace s0_0 := keepc hb1 s0_0 l0
  replace s0_1 := keepc hb1 s0_1 l0
  replace s0_2 := keepc hb1 s0_2 l0
  replace s0_3 := keepc hb1 s0_3 l0
  replace s0_4 := keepc hb1 s0_4 l0
  replace l0 := Nat.lt_of_lt_of_le l0 hb1.size
  replace hx := hx.to hb1
  replace HW := Lib.hid (hstep HW hb1)
  clear hb1
  go_wp2_with fail
  go_ret
  exact ⟨by first | rfl | (unfold imT; simp [ByteArray.append_assoc]), HW.out⟩

set_option maxHeartbeats 4000000 in
theorem rtext_imag (x : Cx) (A1 A2 A3 : Option Addr) (cA1 cA2 cA3 : Nat) (w : World) (hx : Num3C w A1 A2 A3 x) (hs : sz 274877906944 x) (h : nb x ≠ 0) (k : na x = 0) :
    Calls Tryz.prog 55 #[.agg #[.bool (sn (na x)), .slice A1 (ln (ab (na x))) cA1, .bool (sn (nb x)), .slice A2 (ln (ab (nb x))) cA2, .slice A3 (ln (nd x)) cA3]] w (RetStr w (textT x)) := by
  have HS : Hid (sz 274877906944 x) := Lib.hid hs
  have HT : Hid (textT x = imT x) := Lib.hid (by unfold textT; simp [h, k])
  have t1 : ((ln (ab (nb x)) : Int) == 0) = false := by rw [beq_eq_false_iff_ne]; have := ln_pos (n := ab (nb x)) (by unfold ab; omega); omega
  have t2 : ((ln (ab (na x)) : Int) == 0) = true := by rw [k, show ab 0 = 0 from rfl, ln_zero]; rfl
  have zr : (partT (fr (na x) 0 (nd x))).size ≤ 70368744177664 := partT_size (fr_sz (nd_ne0 x) (Nat.le_trans hs.1 (by omega)) (by show ln 0 ≤ _; rw [ln_zero]; omega) (Nat.le_trans hs.2.2 (by omega)))
  have zi : (partT (fr (nb x) 0 (nd x))).size ≤ 70368744177664 := partT_size (fr_sz (nd_ne0 x) (Nat.le_trans hs.2.1 (by omega)) (by show ln 0 ≤ _; rw [ln_zero]; omega) (Nat.le_trans hs.2.2 (by omega)))
  have y1 : ¬ (9223372036854775807 < (partT (fr (nb x) 0 (nd x))).size + 1) := by omega
  have y2 : ¬ (9223372036854775807 < (partT (fr (na x) 0 (nd x))).size + 1) := by omega
  have y3 : ¬ (9223372036854775807 < (partT (fr (na x) 0 (nd x))).size + (partT (fr (nb x) 0 (nd x))).size) := by omega
  have y4 : ¬ (9223372036854775807 < (partT (fr (na x) 0 (nd x))).size + (partT (fr (nb x) 0 (nd x))).size + 1) := by omega
  have y5 : ¬ (9223372036854775807 < (partT (fr (na x) 0 (nd x))).size + 1 + (partT (fr (nb x) 0 (nd x))).size) := by omega
  have y6 : ¬ (9223372036854775807 < (partT (fr (na x) 0 (nd x))).size + 1 + (partT (fr (nb x) 0 (nd x))).size + 1) := by omega
  rw [HT.out]
  clear h hs k
  go_enter Tryz.func55, Tryz.ntmps55
  go_wp2_with fail
  obtain ⟨W, hW⟩ : ∃ W : World, W = (w.alloc (.cells #[.bool (sn (na x)), .slice A1 (ln (ab (na x))) cA1, .bool (sn (nb x)), .slice A2 (ln (ab (nb x))) cA2, .slice A3 (ln (nd x)) cA3] 34)) := ⟨_, rfl⟩
  have s0_0 : W.cell? ⟨w.heap.size, 0, none⟩ = some (.bool (sn (na x))) := by subst hW; go_simp
  have s0_1 : W.cell? ⟨w.heap.size, 1, none⟩ = some (.slice A1 (ln (ab (na x))) cA1) := by subst hW; go_simp
  have s0_2 : W.cell? ⟨w.heap.size, 2, none⟩ = some (.bool (sn (nb x))) := by subst hW; go_simp
  have s0_3 : W.cell? ⟨w.heap.size, 3, none⟩ = some (.slice A2 (ln (ab (nb x))) cA2) := by subst hW; go_simp
  have s0_4 : W.cell? ⟨w.heap.size, 4, none⟩ = some (.slice A3 (ln (nd x)) cA3) := by subst hW; go_simp
  have HW : Below w.heap.size w W := by subst hW; exact ((Below.refl w.heap.size w).alloc (Nat.le_refl _) _)
  have l0 : w.heap.size < W.heap.size := by subst hW; simp
  replace hx := hx.to HW
  rw [← hW]
  clear hW
  replace HW := Lib.hid HW
  refine (rhalf_any (nb x) (nd x) A2 A3 cA2 cA3 _ (by exact hx.2.1) (by exact hx.2.2) HS.out.2.1 HS.out.2.2 (nd_ne0 x)).mono ?_
  rintro e w1 ⟨rfl, hb1⟩
  replace s0_0 := keepc hb1 s0_0 l0
  replace s0_1 := keepc hb1 s0_1 l0
  replace s0_2 := keepc hb1 s0_2 l0
  replace s0_3 := keepc hb1 s0_3 l0
  replace s0_4 := keepc hb1 s0_4 l0
  replace l0 := Nat.lt_of_lt_of_le l0 hb1.size
  replace hx := hx.to hb1
  replace HW := Lib.hid (hstep HW hb1)
  clear hb1
  go_wp2_with fail
  go_ret
  exact ⟨by first | rfl | (unfold imT; simp [ByteArray.append_assoc]), HW.out⟩

set_option maxHeartbeats 4000000 in
theorem rtext_minus (x : Cx) (A1 A2 A3 : Option Addr) (cA1 cA2 cA3 : Nat) (w : World) (hx : Num3C w A1 A2 A3 x) (hs : sz 274877906944 x) (h : nb x ≠ 0) (k : na x ≠ 0) (m : sn (nb x) = true) :
    Calls Tryz.prog 55 #[.agg #[.bool (sn (na x)), .slice A1 (ln (ab (na x))) cA1, .bool (sn (nb x)), .slice A2 (ln (ab (nb x))) cA2, .slice A3 (ln (nd x)) cA3]] w (RetStr w (textT x)) := by
  have HS : Hid (sz 274877906944 x) := Lib.hid hs
  have HT : Hid (textT x = partT (fr (na x) 0 (nd x)) ++ imT x) := Lib.hid (by unfold textT; simp [h, k, m])
  have t1 : ((ln (ab (nb x)) : Int) == 0) = false := by rw [beq_eq_false_iff_ne]; have := ln_pos (n := ab (nb x)) (by unfold ab; omega); omega
  have t2 : ((ln (ab (na x)) : Int) == 0) = false := by rw [beq_eq_false_iff_ne]; have := ln_pos (n := ab (na x)) (by unfold ab; omega); omega
  have hm := Lib.hid m
  have zr : (partT (fr (na x) 0 (nd x))).size ≤ 70368744177664 := partT_size (fr_sz (nd_ne0 x) (Nat.le_trans hs.1 (by omega)) (by show ln 0 ≤ _; rw [ln_zero]; omega) (Nat.le_trans hs.2.2 (by omega)))
  have zi : (partT (fr (nb x) 0 (nd x))).size ≤ 70368744177664 := partT_size (fr_sz (nd_ne0 x) (Nat.le_trans hs.2.1 (by omega)) (by show ln 0 ≤ _; rw [ln_zero]; omega) (Nat.le_trans hs.2.2 (by omega)))
  have y1 : ¬ (9223372036854775807 < (partT (fr (nb x) 0 (nd x))).size + 1) := by omega
  have y2 : ¬ (9223372036854775807 < (partT (fr (na x) 0 (nd x))).size + 1) := by omega
  have y3 : ¬ (9223372036854775807 < (partT (fr (na x) 0 (nd x))).size + (partT (fr (nb x) 0 (nd x))).size) := by omega
  have y4 : ¬ (9223372036854775807 < (partT (fr (na x) 0 (nd x))).size + (partT (fr (nb x) 0 (nd x))).size + 1) := by omega
  have y5 : ¬ (9223372036854775807 < (partT (fr (na x) 0 (nd x))).size + 1 + (partT (fr (nb x) 0 (nd x))).size) := by omega
  have y6 : ¬ (9223372036854775807 < (partT (fr (na x) 0 (nd x))).size + 1 + (partT (fr (nb x) 0 (nd x))).size + 1) := by omega
  rw [HT.out]
  clear h hs k m
  go_enter Tryz.func55, Tryz.ntmps55
  go_upto_region 5 with fail
  obtain ⟨W, hW⟩ : ∃ W : World, W = (w.alloc (.cells #[.bool (sn (na x)), .slice A1 (ln (ab (na x))) cA1, .bool (sn (nb x)), .slice A2 (ln (ab (nb x))) cA2, .slice A3 (ln (nd x)) cA3] 34)) := ⟨_, rfl⟩
  have s0_0 : W.cell? ⟨w.heap.size, 0, none⟩ = some (.bool (sn (na x))) := by subst hW; go_simp
  have s0_1 : W.cell? ⟨w.heap.size, 1, none⟩ = some (.slice A1 (ln (ab (na x))) cA1) := by subst hW; go_simp
  have s0_2 : W.cell? ⟨w.heap.size, 2, none⟩ = some (.bool (sn (nb x))) := by subst hW; go_simp
  have s0_3 : W.cell? ⟨w.heap.size, 3, none⟩ = some (.slice A2 (ln (ab (nb x))) cA2) := by subst hW; go_simp
  have s0_4 : W.cell? ⟨w.heap.size, 4, none⟩ = some (.slice A3 (ln (nd x)) cA3) := by subst hW; go_simp
  have HW : Below w.heap.size w W := by subst hW; exact ((Below.refl w.heap.size w).alloc (Nat.le_refl _) _)
  have l0 : w.heap.size < W.heap.size := by subst hW; simp
  replace hx := hx.to HW
  rw [← hW]
  clear hW
  replace HW := Lib.hid HW
  have k2 := Lib.hid s0_2
  rw [hm.out] at s0_2
  go_wp2_with fail
  replace s0_2 := k2.out
  clear k2
  go_region_held3 (fun w' => w'.cell? ⟨w.heap.size, 0, none⟩ = some (.bool (sn (na x))) ∧ w'.cell? ⟨w.heap.size, 1, none⟩ = some (.slice A1 (ln (ab (na x))) cA1) ∧ w'.cell? ⟨w.heap.size, 2, none⟩ = some (.bool (sn (nb x))) ∧ w'.cell? ⟨w.heap.size, 3, none⟩ = some (.slice A2 (ln (ab (nb x))) cA2) ∧ w'.cell? ⟨w.heap.size, 4, none⟩ = some (.slice A3 (ln (nd x)) cA3)) (first | with_reducible exact ⟨s0_0, s0_1, s0_2, s0_3, s0_4⟩ | with_reducible exact ⟨s0_0, s0_1, s0_2, s0_3, s0_4⟩ | exact ⟨s0_0, s0_1, s0_2, s0_3, s0_4⟩) (first
    | (go_at_call_of 113 (Value.slice A1 (ln (ab (na x))) cA1); refine (rhalf_any (na x) (nd x) A1 A3 cA1 cA3 _ (by exact hx.1) (by exact hx.2.2) HS.out.1 HS.out.2.2 (nd_ne0 x)).mono ?_; rintro e w1 ⟨rfl, hb1⟩; have hb1 := undrew hb1; replace s0_0 := keepc hb1 s0_0 l0; replace s0_1 := keepc hb1 s0_1 l0; replace s0_2 := keepc hb1 s0_2 l0; replace s0_3 := keepc hb1 s0_3 l0; replace s0_4 := keepc hb1 s0_4 l0; replace l0 := Nat.lt_of_lt_of_le l0 hb1.size; replace hx := hx.to hb1; replace HW := Lib.hid (hstep HW hb1); clear hb1)
    | (go_at_call_of 113 (Value.slice A2 (ln (ab (nb x))) cA2); refine (rhalf_any (nb x) (nd x) A2 A3 cA2 cA3 _ (by exact hx.2.1) (by exact hx.2.2) HS.out.2.1 HS.out.2.2 (nd_ne0 x)).mono ?_; rintro e w2 ⟨rfl, hb2⟩; replace s0_0 := keepc hb2 s0_0 l0; replace s0_1 := keepc hb2 s0_1 l0; replace s0_2 := keepc hb2 s0_2 l0; replace s0_3 := keepc hb2 s0_3 l0; replace s0_4 := keepc hb2 s0_4 l0; replace l0 := Nat.lt_of_lt_of_le l0 hb2.size; replace hx := hx.to hb2; replace HW := Lib.hid (hstep HW hb2); clear hb2))
  go_wp2_with fail
  go_ret
  exact ⟨by first | rfl | (unfold imT; simp [ByteArray.append_assoc]), HW.out⟩

set_option maxHeartbeats 4000000 in
theorem rtext_plus (x : Cx) (A1 A2 A3 : Option Addr) (cA1 cA2 cA3 : Nat) (w : World) (hx : Num3C w A1 A2 A3 x) (hs : sz 274877906944 x) (h : nb x ≠ 0) (k : na x ≠ 0) (m : sn (nb x) = false) :
    Calls Tryz.prog 55 #[.agg #[.bool (sn (na x)), .slice A1 (ln (ab (na x))) cA1, .bool (sn (nb x)), .slice A2 (ln (ab (nb x))) cA2, .slice A3 (ln (nd x)) cA3]] w (RetStr w (textT x)) := by
  have HS : Hid (sz 274877906944 x) := Lib.hid hs
  have HT : Hid (textT x = partT (fr (na x) 0 (nd x)) ++ (⟨#[43]⟩ ++ imT x)) := Lib.hid (by unfold textT; simp [h, k, m])
  have t1 : ((ln (ab (nb x)) : Int) == 0) = false := by rw [beq_eq_false_iff_ne]; have := ln_pos (n := ab (nb x)) (by unfold ab; omega); omega
  have t2 : ((ln (ab (na x)) : Int) == 0) = false := by rw [beq_eq_false_iff_ne]; have := ln_pos (n := ab (na x)) (by unfold ab; omega); omega
  have hm := Lib.hid m
  have zr : (partT (fr (na x) 0 (nd x))).size ≤ 70368744177664 := partT_size (fr_sz (nd_ne0 x) (Nat.le_trans hs.1 (by omega)) (by show ln 0 ≤ _; rw [ln_zero]; omega) (Nat.le_trans hs.2.2 (by omega)))
  have zi : (partT (fr (nb x) 0 (nd x))).size ≤ 70368744177664 := partT_size (fr_sz (nd_ne0 x) (Nat.le_trans hs.2.1 (by omega)) (by show ln 0 ≤ _; rw [ln_zero]; omega) (Nat.le_trans hs.2.2 (by omega)))
  have y1 : ¬ (9223372036854775807 < (partT (fr (nb x) 0 (nd x))).size + 1) := by omega
  have y2 : ¬ (9223372036854775807 < (partT (fr (na x) 0 (nd x))).size + 1) := by omega
  have y3 : ¬ (9223372036854775807 < (partT (fr (na x) 0 (nd x))).size + (partT (fr (nb x) 0 (nd x))).size) := by omega
  have y4 : ¬ (9223372036854775807 < (partT (fr (na x) 0 (nd x))).size + (partT (fr (nb x) 0 (nd x))).size + 1) := by omega
  have y5 : ¬ (9223372036854775807 < (partT (fr (na x) 0 (nd x))).size + 1 + (partT (fr (nb x) 0 (nd x))).size) := by omega
  have y6 : ¬ (9223372036854775807 < (partT (fr (na x) 0 (nd x))).size + 1 + (partT (fr (nb x) 0 (nd x))).size + 1) := by omega
  rw [HT.out]
  clear h hs k m
  go_enter Tryz.func55, Tryz.ntmps55
  go_upto_region 5 with fail
  obtain ⟨W, hW⟩ : ∃ W : World, W = (w.alloc (.cells #[.bool (sn (na x)), .slice A1 (ln (ab (na x))) cA1, .bool (sn (nb x)), .slice A2 (ln (ab (nb x))) cA2, .slice A3 (ln (nd x)) cA3] 34)) := ⟨_, rfl⟩
  have s0_0 : W.cell? ⟨w.heap.size, 0, none⟩ = some (.bool (sn (na x))) := by subst hW; go_simp
  have s0_1 : W.cell? ⟨w.heap.size, 1, none⟩ = some (.slice A1 (ln (ab (na x))) cA1) := by subst hW; go_simp
  have s0_2 : W.cell? ⟨w.heap.size, 2, none⟩ = some (.bool (sn (nb x))) := by subst hW; go_simp
  have s0_3 : W.cell? ⟨w.heap.size, 3, none⟩ = some (.slice A2 (ln (ab (nb x))) cA2) := by subst hW; go_simp
  have s0_4 : W.cell? ⟨w.heap.size, 4, none⟩ = some (.slice A3 (ln (nd x)) cA3) := by subst hW; go_simp
  have HW : Below w.heap.size w W := by subst hW; exact ((Below.refl w.heap.size w).alloc (Nat.le_refl _) _)
  have l0 : w.heap.size < W.heap.size := by subst hW; simp
  replace hx := hx.to HW
  rw [← hW]
  clear hW
  replace HW := Lib.hid HW
  have k2 := Lib.hid s0_2
  rw [hm.out] at s0_2
  go_wp2_with fail
  replace s0_2 := k2.out
  clear k2
  go_region_held3 (fun w' => w'.cell? ⟨w.heap.size, 0, none⟩ = some (.bool (sn (na x))) ∧ w'.cell? ⟨w.heap.size, 1, none⟩ = some (.slice A1 (ln (ab (na x))) cA1) ∧ w'.cell? ⟨w.heap.size, 2, none⟩ = some (.bool (sn (nb x))) ∧ w'.cell? ⟨w.heap.size, 3, none⟩ = some (.slice A2 (ln (ab (nb x))) cA2) ∧ w'.cell? ⟨w.heap.size, 4, none⟩ = some (.slice A3 (ln (nd x)) cA3)) (first | with_reducible exact ⟨s0_0, s0_1, s0_2, s0_3, s0_4⟩ | with_reducible exact ⟨s0_0, s0_1, s0_2, s0_3, s0_4⟩ | exact ⟨s0_0, s0_1, s0_2, s0_3, s0_4⟩) (first
    | (go_at_call_of 113 (Value.slice A1 (ln (ab (na x))) cA1); refine (rhalf_any (na x) (nd x) A1 A3 cA1 cA3 _ (by exact hx.1) (by exact hx.2.2) HS.out.1 HS.out.2.2 (nd_ne0 x)).mono ?_; rintro e w1 ⟨rfl, hb1⟩; have hb1 := undrew hb1; replace s0_0 := keepc hb1 s0_0 l0; replace s0_1 := keepc hb1 s0_1 l0; replace s0_2 := keepc hb1 s0_2 l0; replace s0_3 := keepc hb1 s0_3 l0; replace s0_4 := keepc hb1 s0_4 l0; replace l0 := Nat.lt_of_lt_of_le l0 hb1.size; replace hx := hx.to hb1; replace HW := Lib.hid (hstep HW hb1); clear hb1)
    | (go_at_call_of 113 (Value.slice A2 (ln (ab (nb x))) cA2); refine (rhalf_any (nb x) (nd x) A2 A3 cA2 cA3 _ (by exact hx.2.1) (by exact hx.2.2) HS.out.2.1 HS.out.2.2 (nd_ne0 x)).mono ?_; rintro e w2 ⟨rfl, hb2⟩; replace s0_0 := keepc hb2 s0_0 l0; replace s0_1 := keepc hb2 s0_1 l0; replace s0_2 := keepc hb2 s0_2 l0; replace s0_3 := keepc hb2 s0_3 l0; replace s0_4 := keepc hb2 s0_4 l0; replace l0 := Nat.lt_of_lt_of_le l0 hb2.size; replace hx := hx.to hb2; replace HW := Lib.hid (hstep HW hb2); clear hb2))
  go_wp2_with fail
  go_ret
  exact ⟨by first | rfl | (unfold imT; simp [ByteArray.append_assoc]), HW.out⟩

/-- 'Text(x)' of the reference. -/
theorem rtextq_any (x : Cx) (A1 A2 A3 : Option Addr) (cA1 cA2 cA3 : Nat) (w : World) (hx : Num3C w A1 A2 A3 x) (hs : sz 274877906944 x) :
    Calls Tryz.prog 55 #[.agg #[.bool (sn (na x)), .slice A1 (ln (ab (na x))) cA1, .bool (sn (nb x)), .slice A2 (ln (ab (nb x))) cA2, .slice A3 (ln (nd x)) cA3]] w (RetStr w (textT x)) := by
  by_cases h : nb x = 0
  · exact rtext_real x A1 A2 A3 cA1 cA2 cA3 w hx hs h
  · by_cases k : na x = 0
    · exact rtext_imag x A1 A2 A3 cA1 cA2 cA3 w hx hs h k
    · cases m : sn (nb x) with
      | true => have := rtext_minus x A1 A2 A3 cA1 cA2 cA3 w hx hs h k m; rwa [m] at this
      | false => have := rtext_plus x A1 A2 A3 cA1 cA2 cA3 w hx hs h k m; rwa [m] at this

end Go.Proofs.YtgpmlhpgdalheaaGreat

namespace Go.Proofs.YtgpmlhpgdalheaaGreat
open Go.RowKit Pl
set_option linter.unusedVariables false
set_option linter.unusedSimpArgs false

set_option maxHeartbeats 4000000 in
theorem is_true (q : Cx) (A1 A2 A3 B1 B2 B3 : Option Addr) (cB1 cB2 cB3 : Nat) (w : World) (hx : Num3 w A1 A2 A3 q) (hy : Num3C w B1 B2 B3 q) (hs : sz 274877906944 q) :
    Calls Tryz.prog 45 #[.agg #[.bool (sn (na q)), .slice A1 (ln (ab (na q))) (ln (ab (na q))), .bool (sn (nb q)), .slice A2 (ln (ab (nb q))) (ln (ab (nb q))), .slice A3 (ln (un q)) (ln (un q))], .agg #[.bool (sn (na q)), .slice B1 (ln (ab (na q))) cB1, .bool (sn (nb q)), .slice B2 (ln (ab (nb q))) cB2, .slice B3 (ln (nd q)) cB3]] w (RetBool w true) := by
  have HS : Hid (sz 274877906944 q) := Lib.hid hs
  clear hs
  go_enter Tryz.func45, Tryz.ntmps45
  go_wp2_with fail
  obtain ⟨W, hW⟩ : ∃ W : World, W = ((w.alloc (.cells #[.bool (sn (na q)), .slice A1 (ln (ab (na q))) (ln (ab (na q))), .bool (sn (nb q)), .slice A2 (ln (ab (nb q))) (ln (ab (nb q))), .slice A3 (ln (un q)) (ln (un q))] 30)).alloc (.cells #[.bool (sn (na q)), .slice B1 (ln (ab (na q))) cB1, .bool (sn (nb q)), .slice B2 (ln (ab (nb q))) cB2, .slice B3 (ln (nd q)) cB3] 34)) := ⟨_, rfl⟩
  have s0_0 : W.cell? ⟨w.heap.size, 0, none⟩ = some (.bool (sn (na q))) := by subst hW; go_simp
  have s0_1 : W.cell? ⟨w.heap.size, 1, none⟩ = some (.slice A1 (ln (ab (na q))) (ln (ab (na q)))) := by subst hW; go_simp
  have s0_2 : W.cell? ⟨w.heap.size, 2, none⟩ = some (.bool (sn (nb q))) := by subst hW; go_simp
  have s0_3 : W.cell? ⟨w.heap.size, 3, none⟩ = some (.slice A2 (ln (ab (nb q))) (ln (ab (nb q)))) := by subst hW; go_simp
  have s0_4 : W.cell? ⟨w.heap.size, 4, none⟩ = some (.slice A3 (ln (un q)) (ln (un q))) := by subst hW; go_simp
  have s1_0 : W.cell? ⟨w.heap.size + 1, 0, none⟩ = some (.bool (sn (na q))) := by subst hW; go_simp
  have s1_1 : W.cell? ⟨w.heap.size + 1, 1, none⟩ = some (.slice B1 (ln (ab (na q))) cB1) := by subst hW; go_simp
  have s1_2 : W.cell? ⟨w.heap.size + 1, 2, none⟩ = some (.bool (sn (nb q))) := by subst hW; go_simp
  have s1_3 : W.cell? ⟨w.heap.size + 1, 3, none⟩ = some (.slice B2 (ln (ab (nb q))) cB2) := by subst hW; go_simp
  have s1_4 : W.cell? ⟨w.heap.size + 1, 4, none⟩ = some (.slice B3 (ln (nd q)) cB3) := by subst hW; go_simp
  have HW : Below w.heap.size w W := by subst hW; exact (((Below.refl w.heap.size w).alloc (Nat.le_refl _) _).alloc (by simp) _)
  have l0 : w.heap.size < W.heap.size := by subst hW; simp <;> omega
  have l1 : w.heap.size + 1 < W.heap.size := by subst hW; simp
  replace hx := hx.to HW
  replace hy := hy.to HW
  rw [← hW]
  clear hW
  replace HW := Lib.hid HW
  go_region_held3 (fun w' => w'.cell? ⟨w.heap.size, 0, none⟩ = some (.bool (sn (na q))) ∧ w'.cell? ⟨w.heap.size, 1, none⟩ = some (.slice A1 (ln (ab (na q))) (ln (ab (na q)))) ∧ w'.cell? ⟨w.heap.size, 2, none⟩ = some (.bool (sn (nb q))) ∧ w'.cell? ⟨w.heap.size, 3, none⟩ = some (.slice A2 (ln (ab (nb q))) (ln (ab (nb q)))) ∧ w'.cell? ⟨w.heap.size, 4, none⟩ = some (.slice A3 (ln (un q)) (ln (un q))) ∧ w'.cell? ⟨w.heap.size + 1, 0, none⟩ = some (.bool (sn (na q))) ∧ w'.cell? ⟨w.heap.size + 1, 1, none⟩ = some (.slice B1 (ln (ab (na q))) cB1) ∧ w'.cell? ⟨w.heap.size + 1, 2, none⟩ = some (.bool (sn (nb q))) ∧ w'.cell? ⟨w.heap.size + 1, 3, none⟩ = some (.slice B2 (ln (ab (nb q))) cB2) ∧ w'.cell? ⟨w.heap.size + 1, 4, none⟩ = some (.slice B3 (ln (nd q)) cB3)) (first | with_reducible exact ⟨s0_0, s0_1, s0_2, s0_3, s0_4, s1_0, s1_1, s1_2, s1_3, s1_4⟩ | with_reducible exact ⟨s0_0, s0_1, s0_2, s0_3, s0_4, s1_0, s1_1, s1_2, s1_3, s1_4⟩ | exact ⟨s0_0, s0_1, s0_2, s0_3, s0_4, s1_0, s1_1, s1_2, s1_3, s1_4⟩) (first
    | (go_at_call 95; refine (text_any q A1 A2 A3 _ (by exact hx) HS.out).mono ?_; rintro e w1 ⟨rfl, hb1⟩; have hb1 := undrew hb1; replace s0_0 := keepc hb1 s0_0 l0; replace s0_1 := keepc hb1 s0_1 l0; replace s0_2 := keepc hb1 s0_2 l0; replace s0_3 := keepc hb1 s0_3 l0; replace s0_4 := keepc hb1 s0_4 l0; replace s1_0 := keepc hb1 s1_0 l1; replace s1_1 := keepc hb1 s1_1 l1; replace s1_2 := keepc hb1 s1_2 l1; replace s1_3 := keepc hb1 s1_3 l1; replace s1_4 := keepc hb1 s1_4 l1; replace l0 := Nat.lt_of_lt_of_le l0 hb1.size; replace l1 := Nat.lt_of_lt_of_le l1 hb1.size; replace hx := hx.to hb1; replace hy := hy.to hb1; replace HW := Lib.hid (hstep HW hb1); clear hb1)
    | (go_at_call 55; refine (rtextq_any q B1 B2 B3 cB1 cB2 cB3 _ (by exact hy) HS.out).mono ?_; rintro e w2 ⟨rfl, hb2⟩; replace s0_0 := keepc hb2 s0_0 l0; replace s0_1 := keepc hb2 s0_1 l0; replace s0_2 := keepc hb2 s0_2 l0; replace s0_3 := keepc hb2 s0_3 l0; replace s0_4 := keepc hb2 s0_4 l0; replace s1_0 := keepc hb2 s1_0 l1; replace s1_1 := keepc hb2 s1_1 l1; replace s1_2 := keepc hb2 s1_2 l1; replace s1_3 := keepc hb2 s1_3 l1; replace s1_4 := keepc hb2 s1_4 l1; replace l0 := Nat.lt_of_lt_of_le l0 hb2.size; replace l1 := Nat.lt_of_lt_of_le l1 hb2.size; replace hx := hx.to hb2; replace hy := hy.to hb2; replace HW := Lib.hid (hstep HW hb2); clear hb2))
  go_wp2_with fail
  go_ret
  exact ⟨by first | rfl | simp, HW.out⟩

end Go.Proofs.YtgpmlhpgdalheaaGreat
