/- 'Det' of two rows of two numbers, where no rows are exchanged. -/
import Derived.Test.YtgpmlhpgdalheaaGreatElim
namespace Go.Proofs.YtgpmlhpgdalheaaGreat
open Go.RowKit Pl
set_option linter.unusedVariables false
set_option linter.unusedSimpArgs false

/-- The cells of a row of two numbers. -/
def row2 (x y : Cx) (A1 A2 A3 B1 B2 B3 : Option Addr) : List Value := [.bool (sn (na x)), .slice A1 (ln (ab (na x))) (ln (ab (na x))), .bool (sn (nb x)), .slice A2 (ln (ab (nb x))) (ln (ab (nb x))), .slice A3 (ln (un x)) (ln (un x)), .bool (sn (na y)), .slice B1 (ln (ab (na y))) (ln (ab (na y))), .bool (sn (nb y)), .slice B2 (ln (ab (nb y))) (ln (ab (nb y))), .slice B3 (ln (un y)) (ln (un y))]
theorem row2_len (x y : Cx) (A1 A2 A3 B1 B2 B3 : Option Addr) : (row2 x y A1 A2 A3 B1 B2 B3).length = 2 * 5 := rfl
theorem row2_one (x y : Cx) (A1 A2 A3 B1 B2 B3 : Option Addr) : ∀ u ∈ row2 x y A1 A2 A3 B1 B2 B3, u.oneCell' = true := by
  intro u hu
  simp only [row2, List.mem_cons, List.not_mem_nil, or_false] at hu
  rcases hu with rfl | rfl | rfl | rfl | rfl | rfl | rfl | rfl | rfl | rfl <;> rfl
theorem row2_cells {w : World} {g : Nat} {x y : Cx} {A1 A2 A3 B1 B2 B3 : Option Addr} (h : VarAt w g x A1 A2 A3) (k : At5 w g y B1 B2 B3) : ∀ j u, (row2 x y A1 A2 A3 B1 B2 B3)[j]? = some u → w.cell? ⟨g, j, none⟩ = some u := by
  obtain ⟨_, ⟨c0, c1, c2, c3, c4⟩, _⟩ := h
  obtain ⟨_, ⟨d0, d1, d2, d3, d4⟩, _⟩ := k
  intro j u hj
  match j, hj with
  | 0, hj => injection hj with hj; rw [← hj]; exact c0
  | 1, hj => injection hj with hj; rw [← hj]; exact c1
  | 2, hj => injection hj with hj; rw [← hj]; exact c2
  | 3, hj => injection hj with hj; rw [← hj]; exact c3
  | 4, hj => injection hj with hj; rw [← hj]; exact c4
  | 5, hj => injection hj with hj; rw [← hj]; exact d0
  | 6, hj => injection hj with hj; rw [← hj]; exact d1
  | 7, hj => injection hj with hj; rw [← hj]; exact d2
  | 8, hj => injection hj with hj; rw [← hj]; exact d3
  | 9, hj => injection hj with hj; rw [← hj]; exact d4
  | j + 10, hj => simp [row2] at hj
theorem own_row2 {w : World} {b r a : Nat} {x y : Cx} {A1 A2 A3 B1 B2 B3 : Option Addr} (h : w.ownsRow b 30 5 (.slice (some ⟨r, 0, none⟩) 2 a) 2 (row2 x y A1 A2 A3 B1 B2 B3)) (hx : Num3 w A1 A2 A3 x) (hy : Num3 w B1 B2 B3 y) :
    VarAt w r x A1 A2 A3 ∧ At5 w r y B1 B2 B3 ∧ (∀ i, w.frozen? ⟨r, i, none⟩ = false) ∧ b ≤ r := by
  have hl := h.lt r rfl
  have hc : ∀ j u, (row2 x y A1 A2 A3 B1 B2 B3)[j]? = some u → w.cell? ⟨r, j, none⟩ = some u := fun j u hj => by
    have := h.cells (g := r) rfl j u hj
    rwa [show (⟨r, 0, none⟩ : Addr).add j = ⟨r, j, none⟩ by simp only [Addr.add]; split <;> simp_all] at this
  refine ⟨⟨hl.2, ⟨hc 0 _ rfl, hc 1 _ rfl, hc 2 _ rfl, hc 3 _ rfl, hc 4 _ rfl⟩, hx⟩, ⟨hl.2, ⟨hc 5 _ rfl, hc 6 _ rfl, hc 7 _ rfl, hc 8 _ rfl, hc 9 _ rfl⟩, hy⟩, fun i => ?_, hl.1⟩
  rcases h.2 with ⟨e, _⟩ | ⟨g, cap, cur, e, _, hg, _⟩
  · cases e
  · injection e with e; injection e with e; injection e with e
    subst e
    simp [World.frozen?, hg]
theorem keepcB {W w1 : World} {B : Nat} (hb : Below B W w1) {b i : Nat} {v : Value} (h : W.cell? ⟨b, i, none⟩ = some v) (hlt : b < B) : w1.cell? ⟨b, i, none⟩ = some v := (hb.cell (p := ⟨b, i, none⟩) hlt).trans h
theorem keepfB {W w1 : World} {B : Nat} (hb : Below B W w1) {b i : Nat} {v : Bool} (h : W.frozen? ⟨b, i, none⟩ = v) (hlt : b < B) : w1.frozen? ⟨b, i, none⟩ = v := (hb.frozen (p := ⟨b, i, none⟩) hlt).trans h

set_option maxRecDepth 100000 in
set_option maxHeartbeats 4000000 in
theorem det2 (w : World) (b g0 g1 k0 k1 c : Nat) (q00 q01 q10 q11 : Cx) (A1 A2 A3 B1 B2 B3 C1 C2 C3 E1 E2 E3 : Option Addr) (m0 : w.cell? ⟨b, 0, none⟩ = some (.slice (some ⟨g0, 0, none⟩) 2 k0)) (m1 : w.cell? ⟨b, 1, none⟩ = some (.slice (some ⟨g1, 0, none⟩) 2 k1)) (hb : b < w.heap.size) (V00 : VarAt w g0 q00 A1 A2 A3) (V01 : At5 w g0 q01 B1 B2 B3) (V10 : VarAt w g1 q10 C1 C2 C3) (V11 : At5 w g1 q11 E1 E2 E3) (z00 : sz 2 q00) (z01 : sz 2 q01) (z10 : sz 2 q10) (z11 : sz 2 q11) (h00 : q00 ≠ Cx.zero) (h11 : (q11.sub ((q10.div q00).mul q01)) ≠ Cx.zero) :
    Calls Tryz.prog 94 #[.slice (some ⟨b, 0, none⟩) 2 c] w (RetNumE w 0 (q00.mul (q11.sub ((q10.div q00).mul q01)))) := by
  have H00 := Lib.hid h00
  have H11 := Lib.hid h11
  clear h00 h11
  go_enter Tryz.func94, Tryz.ntmps94
  go_wp2_with fail
  obtain ⟨W, hW⟩ : ∃ W : World, W = ((w.alloc (.cells #[.bool false, .slice none 0 0, .bool false, .slice none 0 0, .slice none 0 0] 30)).alloc (.cells #[.bool false, .slice none 0 0, .bool false, .slice none 0 0, .slice none 0 0] 30)) := ⟨_, rfl⟩
  have s0_0 : W.cell? ⟨w.heap.size, 0, none⟩ = some (.bool false) := by subst hW; go_simp
  have g0_0 : W.frozen? ⟨w.heap.size, 0, none⟩ = false := by subst hW; go_simp
  have s0_1 : W.cell? ⟨w.heap.size, 1, none⟩ = some (.slice none 0 0) := by subst hW; go_simp
  have g0_1 : W.frozen? ⟨w.heap.size, 1, none⟩ = false := by subst hW; go_simp
  have s0_2 : W.cell? ⟨w.heap.size, 2, none⟩ = some (.bool false) := by subst hW; go_simp
  have g0_2 : W.frozen? ⟨w.heap.size, 2, none⟩ = false := by subst hW; go_simp
  have s0_3 : W.cell? ⟨w.heap.size, 3, none⟩ = some (.slice none 0 0) := by subst hW; go_simp
  have g0_3 : W.frozen? ⟨w.heap.size, 3, none⟩ = false := by subst hW; go_simp
  have s0_4 : W.cell? ⟨w.heap.size, 4, none⟩ = some (.slice none 0 0) := by subst hW; go_simp
  have g0_4 : W.frozen? ⟨w.heap.size, 4, none⟩ = false := by subst hW; go_simp
  have r0 : W.cell? ⟨w.heap.size + 1, 0, none⟩ = some (.bool false) := by subst hW; go_simp
  have f0 : W.frozen? ⟨w.heap.size + 1, 0, none⟩ = false := by subst hW; go_simp
  have r1 : W.cell? ⟨w.heap.size + 1, 1, none⟩ = some (.slice none 0 0) := by subst hW; go_simp
  have f1 : W.frozen? ⟨w.heap.size + 1, 1, none⟩ = false := by subst hW; go_simp
  have r2 : W.cell? ⟨w.heap.size + 1, 2, none⟩ = some (.bool false) := by subst hW; go_simp
  have f2 : W.frozen? ⟨w.heap.size + 1, 2, none⟩ = false := by subst hW; go_simp
  have r3 : W.cell? ⟨w.heap.size + 1, 3, none⟩ = some (.slice none 0 0) := by subst hW; go_simp
  have f3 : W.frozen? ⟨w.heap.size + 1, 3, none⟩ = false := by subst hW; go_simp
  have r4 : W.cell? ⟨w.heap.size + 1, 4, none⟩ = some (.slice none 0 0) := by subst hW; go_simp
  have f4 : W.frozen? ⟨w.heap.size + 1, 4, none⟩ = false := by subst hW; go_simp
  have HW : Below w.heap.size w W := by subst hW; exact (((Below.refl w.heap.size w).alloc (Nat.le_refl _) _).alloc (by simp) _)
  have l0 : w.heap.size < W.heap.size := by subst hW; simp <;> omega
  have l1 : w.heap.size + 1 < W.heap.size := by subst hW; simp
  have n0 : w.heap.size ≠ w.heap.size + 1 := by omega
  replace V00 := V00.to HW
  replace V01 := V01.to HW
  replace V10 := V10.to HW
  replace V11 := V11.to HW
  rw [← hW]
  clear hW
  replace HW := Lib.hid HW
  replace m0 := keepc HW.out m0 hb
  replace m1 := keepc HW.out m1 hb
  have l50 : b < W.heap.size := Nat.lt_of_lt_of_le hb HW.out.size
  refine (square2 _ b g0 g1 k0 k1 c (by exact m0) (by exact m1) l50).mono ?_
  rintro e w1 ⟨rfl, hb1⟩
  replace s0_0 := keepc hb1 s0_0 l0
  replace g0_0 := keepf hb1 g0_0 l0
  replace s0_1 := keepc hb1 s0_1 l0
  replace g0_1 := keepf hb1 g0_1 l0
  replace s0_2 := keepc hb1 s0_2 l0
  replace g0_2 := keepf hb1 g0_2 l0
  replace s0_3 := keepc hb1 s0_3 l0
  replace g0_3 := keepf hb1 g0_3 l0
  replace s0_4 := keepc hb1 s0_4 l0
  replace g0_4 := keepf hb1 g0_4 l0
  replace m0 := keepc hb1 m0 l50
  replace m1 := keepc hb1 m1 l50
  replace r0 := keepc hb1 r0 l1
  replace f0 := keepf hb1 f0 l1
  replace r1 := keepc hb1 r1 l1
  replace f1 := keepf hb1 f1 l1
  replace r2 := keepc hb1 r2 l1
  replace f2 := keepf hb1 f2 l1
  replace r3 := keepc hb1 r3 l1
  replace f3 := keepf hb1 f3 l1
  replace r4 := keepc hb1 r4 l1
  replace f4 := keepf hb1 f4 l1
  replace l0 := Nat.lt_of_lt_of_le l0 hb1.size
  replace l1 := Nat.lt_of_lt_of_le l1 hb1.size
  replace l50 := Nat.lt_of_lt_of_le l50 hb1.size
  replace V00 := V00.to hb1
  replace V01 := V01.to hb1
  replace V10 := V10.to hb1
  replace V11 := V11.to hb1
  replace HW := Lib.hid (hstep HW hb1)
  clear hb1
  go_wp2_with fail
  have z0 := l0
  have z1 := l1
  have y00 := V00.2.2
  have y01 := V01.2.2
  have y10 := V10.2.2
  have y11 := V11.2.2
  refine (copied2 _ b g0 g1 k0 k1 c (row2 q00 q01 A1 A2 A3 B1 B2 B3) (row2 q10 q11 C1 C2 C3 E1 E2 E3) (by exact m0) (by exact m1) l50 (row2_len ..) (row2_len ..) (row2_cells V00 V01) (row2_cells V10 V11) (row2_one _ _ _ _ _ _ _ _) (row2_one _ _ _ _ _ _ _ _) V00.1 V10.1).mono ?_
  rintro e w2 ⟨p, t0, t1, a0, a1, rfl, d0, d1, o0, o1, ne, hpw, hpl, fp0, fp1, hb2⟩
  have nsz := hb2.size
  replace s0_0 := keepc hb2 s0_0 l0
  replace g0_0 := keepf hb2 g0_0 l0
  replace s0_1 := keepc hb2 s0_1 l0
  replace g0_1 := keepf hb2 g0_1 l0
  replace s0_2 := keepc hb2 s0_2 l0
  replace g0_2 := keepf hb2 g0_2 l0
  replace s0_3 := keepc hb2 s0_3 l0
  replace g0_3 := keepf hb2 g0_3 l0
  replace s0_4 := keepc hb2 s0_4 l0
  replace g0_4 := keepf hb2 g0_4 l0
  replace m0 := keepc hb2 m0 l50
  replace m1 := keepc hb2 m1 l50
  replace r0 := keepc hb2 r0 l1
  replace f0 := keepf hb2 f0 l1
  replace r1 := keepc hb2 r1 l1
  replace f1 := keepf hb2 f1 l1
  replace r2 := keepc hb2 r2 l1
  replace f2 := keepf hb2 f2 l1
  replace r3 := keepc hb2 r3 l1
  replace f3 := keepf hb2 f3 l1
  replace r4 := keepc hb2 r4 l1
  replace f4 := keepf hb2 f4 l1
  replace l0 := Nat.lt_of_lt_of_le l0 hb2.size
  replace l1 := Nat.lt_of_lt_of_le l1 hb2.size
  replace l50 := Nat.lt_of_lt_of_le l50 hb2.size
  replace V00 := V00.to hb2
  replace V01 := V01.to hb2
  replace V10 := V10.to hb2
  replace V11 := V11.to hb2
  replace y00 := y00.to hb2
  replace y01 := y01.to hb2
  replace y10 := y10.to hb2
  replace y11 := y11.to hb2
  replace HW := Lib.hid (hstep HW hb2)
  clear hb2
  go_wp2_with fail
  obtain ⟨VV00, VV01, _, _⟩ := own_row2 o0 y00 y01
  obtain ⟨VV10, VV11, fr1, hpt⟩ := own_row2 o1 y10 y11
  have HX : Hid (w1.heap.size ≤ t1 ∧ p ≠ t1 ∧ w.heap.size ≤ w1.heap.size) := Lib.hid (by omega)
  refine (elim2 _ w1.heap.size p t0 t1 a0 a1 q00 q01 q10 q11 A1 A2 A3 B1 B2 B3 C1 C2 C3 E1 E2 E3 d0 d1 VV00 VV01 VV10 VV11 (fr1 5) (fr1 6) (fr1 7) (fr1 8) (fr1 9) hpl nsz HX.out.1 ne HX.out.2.1 z00 z01 z10 z11 H00.out H11.out).mono ?_
  rintro e w3 ⟨rfl, c0, c1, W00, ⟨U1, U2, U3, W11⟩, hbB⟩
  replace s0_0 := keepcB hbB s0_0 z0
  replace g0_0 := keepfB hbB g0_0 z0
  replace r0 := keepcB hbB r0 z1
  replace f0 := keepfB hbB f0 z1
  replace s0_1 := keepcB hbB s0_1 z0
  replace g0_1 := keepfB hbB g0_1 z0
  replace r1 := keepcB hbB r1 z1
  replace f1 := keepfB hbB f1 z1
  replace s0_2 := keepcB hbB s0_2 z0
  replace g0_2 := keepfB hbB g0_2 z0
  replace r2 := keepcB hbB r2 z1
  replace f2 := keepfB hbB f2 z1
  replace s0_3 := keepcB hbB s0_3 z0
  replace g0_3 := keepfB hbB g0_3 z0
  replace r3 := keepcB hbB r3 z1
  replace f3 := keepfB hbB f3 z1
  replace s0_4 := keepcB hbB s0_4 z0
  replace g0_4 := keepfB hbB g0_4 z0
  replace r4 := keepcB hbB r4 z1
  replace f4 := keepfB hbB f4 z1
  replace HW := Lib.hid (HW.out.trans (hbB.mono HX.out.2.2))
  replace l0 := Nat.lt_of_lt_of_le l0 hbB.size
  replace l1 := Nat.lt_of_lt_of_le l1 hbB.size
  replace hpl := Nat.lt_of_lt_of_le hpl hbB.size
  clear m0 m1 l50 V00 V01 V10 V11 y00 y01 y10 y11 d0 d1 o0 o1 VV00 VV01 VV10 VV11 fr1 hpt fp0 fp1 ne nsz hbB z0 z1 HX hpw
  go_upto_region 6 with fail
  obtain ⟨X1, hX1⟩ : ∃ X : World, X = w3.alloc (.cells #[.int .i64 (-1)] 3) := ⟨_, rfl⟩
  rw [← hX1]
  have b3 : Below w3.heap.size w3 X1 := by rw [hX1]; exact (Below.refl _ _).alloc (Nat.le_refl _) _
  have sp : X1.cell? ⟨w3.heap.size, 0, none⟩ = some (.int .i64 (-1)) := by subst hX1; go_simp
  clear hX1
  replace s0_0 := keepc b3 s0_0 l0
  replace g0_0 := keepf b3 g0_0 l0
  replace r0 := keepc b3 r0 l1
  replace f0 := keepf b3 f0 l1
  replace s0_1 := keepc b3 s0_1 l0
  replace g0_1 := keepf b3 g0_1 l0
  replace r1 := keepc b3 r1 l1
  replace f1 := keepf b3 f1 l1
  replace s0_2 := keepc b3 s0_2 l0
  replace g0_2 := keepf b3 g0_2 l0
  replace r2 := keepc b3 r2 l1
  replace f2 := keepf b3 f2 l1
  replace s0_3 := keepc b3 s0_3 l0
  replace g0_3 := keepf b3 g0_3 l0
  replace r3 := keepc b3 r3 l1
  replace f3 := keepf b3 f3 l1
  replace s0_4 := keepc b3 s0_4 l0
  replace g0_4 := keepf b3 g0_4 l0
  replace r4 := keepc b3 r4 l1
  replace f4 := keepf b3 f4 l1
  replace c0 := keepc b3 c0 hpl
  replace c1 := keepc b3 c1 hpl
  replace W11 := W11.to b3
  replace l0 := Nat.lt_of_lt_of_le l0 b3.size
  replace l1 := Nat.lt_of_lt_of_le l1 b3.size
  replace hpl := Nat.lt_of_lt_of_le hpl b3.size
  replace W00 := W00.to b3
  replace HW := Lib.hid (hstep HW b3)
  clear b3
  generalize w3.heap.size = gs at *
  obtain ⟨tA0, tA1, tA2, tA3, tA4⟩ := W00.2.1
  go_wp2_with fail
  obtain ⟨X, hX⟩ : ∃ X : World, X = X1.alloc (.cells #[.bool (sn (na q00)), .slice A1 (ln (ab (na q00))) (ln (ab (na q00))), .bool (sn (nb q00)), .slice A2 (ln (ab (nb q00))) (ln (ab (nb q00))), .slice A3 (ln (un q00)) (ln (un q00))] 30) := ⟨_, rfl⟩
  rw [← hX]
  have b4 : Below X1.heap.size X1 X := by rw [hX]; exact (Below.refl _ _).alloc (Nat.le_refl _) _
  have e0 : X.frozen? ⟨X1.heap.size, 0, none⟩ = false := by subst hX; go_simp
  have e1 : X.frozen? ⟨X1.heap.size, 1, none⟩ = false := by subst hX; go_simp
  have e2 : X.frozen? ⟨X1.heap.size, 2, none⟩ = false := by subst hX; go_simp
  have e3 : X.frozen? ⟨X1.heap.size, 3, none⟩ = false := by subst hX; go_simp
  have e4 : X.frozen? ⟨X1.heap.size, 4, none⟩ = false := by subst hX; go_simp
  have VD : VarAt X X1.heap.size q00 A1 A2 A3 := ⟨by rw [hX]; simp, ⟨by subst hX; go_simp, by subst hX; go_simp, by subst hX; go_simp, by subst hX; go_simp, by subst hX; go_simp⟩, W00.2.2.to b4⟩
  clear tA0 tA1 tA2 tA3 tA4 hX sp
  have hd : Hid (w.heap.size < X1.heap.size ∧ w.heap.size + 1 < X1.heap.size ∧ p < X1.heap.size ∧ t1 < X1.heap.size) := Lib.hid (by have := W11.1; omega)
  replace s0_0 := keepc b4 s0_0 l0
  replace g0_0 := keepf b4 g0_0 l0
  replace r0 := keepc b4 r0 l1
  replace f0 := keepf b4 f0 l1
  replace s0_1 := keepc b4 s0_1 l0
  replace g0_1 := keepf b4 g0_1 l0
  replace r1 := keepc b4 r1 l1
  replace f1 := keepf b4 f1 l1
  replace s0_2 := keepc b4 s0_2 l0
  replace g0_2 := keepf b4 g0_2 l0
  replace r2 := keepc b4 r2 l1
  replace f2 := keepf b4 f2 l1
  replace s0_3 := keepc b4 s0_3 l0
  replace g0_3 := keepf b4 g0_3 l0
  replace r3 := keepc b4 r3 l1
  replace f3 := keepf b4 f3 l1
  replace s0_4 := keepc b4 s0_4 l0
  replace g0_4 := keepf b4 g0_4 l0
  replace r4 := keepc b4 r4 l1
  replace f4 := keepf b4 f4 l1
  replace c0 := keepc b4 c0 hpl
  replace c1 := keepc b4 c1 hpl
  replace W11 := W11.to b4
  replace l0 := Nat.lt_of_lt_of_le l0 b4.size
  replace l1 := Nat.lt_of_lt_of_le l1 b4.size
  replace hpl := Nat.lt_of_lt_of_le hpl b4.size
  replace HW := Lib.hid (hstep HW b4)
  clear b4 W00
  generalize X1.heap.size = gd at *
  have np0 : p ≠ gd := by have := hd.out; omega
  have np1 : t1 ≠ gd := by have := hd.out; omega
  have np2 : w.heap.size ≠ gd := by have := hd.out; omega
  have np3 : w.heap.size + 1 ≠ gd := by have := hd.out; omega
  have np4 : w.heap.size ≤ gd := by have := hd.out; omega
  clear hd
  have zU : sz 61 (q11.sub ((q10.div q00).mul q01)) := sz_sub (z11.mono (by decide : 2 ≤ 30)) ((sz_mul (sz_div (by decide) z10 z00 H00.out) (z01.mono (by decide : 2 ≤ 10))).mono (by decide : 21 ≤ 30))
  have hmMul : ∀ (k : Nat) (v1 v2 v3 v4 v5 : Value) (w : World), (method (k + 1) 30 (.agg #[v1, v2, v3, v4, v5]) "Mul").run Tryz.prog w = .ok (30, .agg #[v1, v2, v3, v4, v5]) w := fun _ _ _ _ _ _ _ => by kernel_rfl
  refine wp_loop_rounds 2 ?_
  rw [rounds_succ]
  obtain ⟨tB0, tB1, tB2, tB3, tB4⟩ := W11.2.1
  obtain ⟨tD0, tD1, tD2, tD3, tD4⟩ := VD.2.1
  go_wp2_with fail
  refine wp_region_held_drew (S := fun w' => w'.cell? ⟨p, 0, none⟩ = some (.slice (some ⟨t0, 0, none⟩) 2 a0) ∧ w'.cell? ⟨p, 1, none⟩ = some (.slice (some ⟨t1, 0, none⟩) 2 a1) ∧ w'.cell? ⟨t1, 5, none⟩ = some (.bool (sn (na (q11.sub ((q10.div q00).mul q01))))) ∧ w'.cell? ⟨t1, 6, none⟩ = some (.slice U1 (ln (ab (na (q11.sub ((q10.div q00).mul q01))))) (ln (ab (na (q11.sub ((q10.div q00).mul q01)))))) ∧ w'.cell? ⟨t1, 7, none⟩ = some (.bool (sn (nb (q11.sub ((q10.div q00).mul q01))))) ∧ w'.cell? ⟨t1, 8, none⟩ = some (.slice U2 (ln (ab (nb (q11.sub ((q10.div q00).mul q01))))) (ln (ab (nb (q11.sub ((q10.div q00).mul q01)))))) ∧ w'.cell? ⟨t1, 9, none⟩ = some (.slice U3 (ln (un (q11.sub ((q10.div q00).mul q01)))) (ln (un (q11.sub ((q10.div q00).mul q01)))))) (by kernel_rfl) ?_ (fun hHeld => ?_)
  · exact ⟨c0, c1, tB0, tB1, tB2, tB3, tB4⟩
  refine takeH (i := 2) (d := 52) (v := ?v201) rfl rfl (by kernel_rfl) (by kernel_rfl) (by kernel_rfl) (fun _ _ _ h => h) (Or.inl ⟨by rfl, ?y201⟩) (by assumption) ?r201
  case y201 => (intro w hSw; (try dsimp only at hSw); go_simp; try with_reducible rfl)
  try simp only [Act.put, List.setIfInBounds_toArray, List.set_cons_zero, List.set_cons_succ]
  refine takeH (i := 3) (d := 53) (v := ?v202) rfl rfl (by kernel_rfl) (by kernel_rfl) (by kernel_rfl) (fun _ _ _ h => h) (Or.inl ⟨by rfl, ?y202⟩) (by assumption) ?r202
  case y202 => (intro w hSw; (try dsimp only at hSw); go_simp; try with_reducible rfl)
  try simp only [Act.put, List.setIfInBounds_toArray, List.set_cons_zero, List.set_cons_succ]
  refine takeH (i := 4) (d := 54) (v := ?v203) rfl rfl (by kernel_rfl) (by kernel_rfl) (by kernel_rfl) (fun _ _ _ h => h) (Or.inl ⟨by rfl, ?y203⟩) (by assumption) ?r203
  case y203 => (intro w hSw; (try dsimp only at hSw); go_simp; try with_reducible rfl)
  try simp only [Act.put, List.setIfInBounds_toArray, List.set_cons_zero, List.set_cons_succ]
  refine takeH (i := 5) (d := 55) (v := ?v204) rfl rfl (by kernel_rfl) (by kernel_rfl) (by kernel_rfl) (fun _ _ _ h => h) (Or.inl ⟨by rfl, ?y204⟩) (by assumption) ?r204
  case y204 => (intro w hSw; (try dsimp only at hSw); go_simp; try with_reducible rfl)
  try simp only [Act.put, List.setIfInBounds_toArray, List.set_cons_zero, List.set_cons_succ]
  refine takeH (i := 6) (d := 56) (v := ?v205) rfl rfl (by kernel_rfl) (by kernel_rfl) (by kernel_rfl) (fun _ _ _ h => h) (Or.inl ⟨by rfl, ?y205⟩) (by assumption) ?r205
  case y205 => (intro w hSw; (try dsimp only at hSw); go_simp; try with_reducible rfl)
  try simp only [Act.put, List.setIfInBounds_toArray, List.set_cons_zero, List.set_cons_succ]
  refine takeH (i := 7) (d := 57) (v := ?v206) rfl rfl (by kernel_rfl) (by kernel_rfl) (by kernel_rfl) (fun _ _ _ h => h) (Or.inl ⟨by rfl, ?y206⟩) (by assumption) ?r206
  case y206 => (intro w hSw; (try dsimp only at hSw); go_simp; try with_reducible rfl)
  try simp only [Act.put, List.setIfInBounds_toArray, List.set_cons_zero, List.set_cons_succ]
  refine takeH (i := 8) (d := 58) (v := ?v207) rfl rfl (by kernel_rfl) (by kernel_rfl) (by kernel_rfl) (fun _ _ _ h => h) (Or.inl ⟨by rfl, ?y207⟩) (by assumption) ?r207
  case y207 => (intro w hSw; (try dsimp only at hSw); go_simp; try with_reducible rfl)
  try simp only [Act.put, List.setIfInBounds_toArray, List.set_cons_zero, List.set_cons_succ]
  refine wpAnyH_ready (rs := [0]) (by kernel_rfl) (by simp) (AllReadyH.cons rfl (fun K hK => ?_) AllReadyH.nil)
  go_simp
  refine hK.out _ _ ?_ (fun hHeld => ?_)
  · exact ⟨c0, c1, tB0, tB1, tB2, tB3, tB4⟩
  clear hK K
  try simp only [Act.put, List.setIfInBounds_toArray, List.set_cons_zero, List.set_cons_succ]
  refine takeH (i := 1) (d := 51) (v := ?v208) rfl rfl (by kernel_rfl) (by kernel_rfl) (by kernel_rfl) (fun _ _ _ h => h) (Or.inl ⟨by rfl, ?y208⟩) (by assumption) ?r208
  case y208 => (intro w hSw; (try dsimp only at hSw); go_simp; try with_reducible rfl)
  try simp only [Act.put, List.setIfInBounds_toArray, List.set_cons_zero, List.set_cons_succ]
  refine wpAnyH_ready (rs := [9]) (by kernel_rfl) (by simp) (AllReadyH.cons rfl (fun K hK => ?_) AllReadyH.nil)
  go_simp
  refine (mul_num q00 (q11.sub ((q10.div q00).mul q01)) A1 A2 A3 U1 U2 U3 _ (by exact VD.2.2) (by exact W11.2.2) (z00.mono (by decide)) (zU.mono (by decide))).mono ?_
  rintro e w5 ⟨M1, M2, M3, rfl, hM, hb5⟩
  replace hb5 := undrew hb5
  clear tB0 tB1 tB2 tB3 tB4 tD0 tD1 tD2 tD3 tD4
  replace s0_0 := keepc hb5 s0_0 l0
  replace g0_0 := keepf hb5 g0_0 l0
  replace r0 := keepc hb5 r0 l1
  replace f0 := keepf hb5 f0 l1
  replace s0_1 := keepc hb5 s0_1 l0
  replace g0_1 := keepf hb5 g0_1 l0
  replace r1 := keepc hb5 r1 l1
  replace f1 := keepf hb5 f1 l1
  replace s0_2 := keepc hb5 s0_2 l0
  replace g0_2 := keepf hb5 g0_2 l0
  replace r2 := keepc hb5 r2 l1
  replace f2 := keepf hb5 f2 l1
  replace s0_3 := keepc hb5 s0_3 l0
  replace g0_3 := keepf hb5 g0_3 l0
  replace r3 := keepc hb5 r3 l1
  replace f3 := keepf hb5 f3 l1
  replace s0_4 := keepc hb5 s0_4 l0
  replace g0_4 := keepf hb5 g0_4 l0
  replace r4 := keepc hb5 r4 l1
  replace f4 := keepf hb5 f4 l1
  replace c0 := keepc hb5 c0 hpl
  replace c1 := keepc hb5 c1 hpl
  replace W11 := W11.to hb5
  replace l0 := Nat.lt_of_lt_of_le l0 hb5.size
  replace l1 := Nat.lt_of_lt_of_le l1 hb5.size
  replace hpl := Nat.lt_of_lt_of_le hpl hb5.size
  replace e0 := keepf hb5 e0 VD.1
  replace e1 := keepf hb5 e1 VD.1
  replace e2 := keepf hb5 e2 VD.1
  replace e3 := keepf hb5 e3 VD.1
  replace e4 := keepf hb5 e4 VD.1
  replace VD := VD.to hb5
  replace HW := Lib.hid (hstep HW hb5)
  clear hb5
  obtain ⟨tB0, tB1, tB2, tB3, tB4⟩ := W11.2.1
  obtain ⟨tD0, tD1, tD2, tD3, tD4⟩ := VD.2.1
  refine hK.out _ _ ?_ (fun hHeld => ?_)
  · exact ⟨c0, c1, tB0, tB1, tB2, tB3, tB4⟩
  clear hK K
  try simp only [Act.put, List.setIfInBounds_toArray, List.set_cons_zero, List.set_cons_succ]
  refine wpAnyH_ready (rs := [10]) (by kernel_rfl) (by simp) (AllReadyH.cons rfl (fun K hK => ?_) AllReadyH.nil)
  go_simp
  obtain ⟨Y, hY⟩ : ∃ X : World, X = set5 w5 (gd) (q00.mul (q11.sub ((q10.div q00).mul q01))) M1 M2 M3 := ⟨_, rfl⟩
  have hw : set5 w5 (gd) (q00.mul (q11.sub ((q10.div q00).mul q01))) M1 M2 M3 = Y := hY.symm
  unfold set5 at hw
  rw [hw]
  clear hw
  replace c0 := set5_cell (q := (q00.mul (q11.sub ((q10.div q00).mul q01)))) (A1 := M1) (A2 := M2) (A3 := M3) c0 np0
  rw [← hY] at c0
  replace c1 := set5_cell (q := (q00.mul (q11.sub ((q10.div q00).mul q01)))) (A1 := M1) (A2 := M2) (A3 := M3) c1 np0
  rw [← hY] at c1
  replace tB0 := set5_cell (q := (q00.mul (q11.sub ((q10.div q00).mul q01)))) (A1 := M1) (A2 := M2) (A3 := M3) tB0 np1
  rw [← hY] at tB0
  replace s0_0 := set5_cell (q := (q00.mul (q11.sub ((q10.div q00).mul q01)))) (A1 := M1) (A2 := M2) (A3 := M3) s0_0 np2
  rw [← hY] at s0_0
  replace tB1 := set5_cell (q := (q00.mul (q11.sub ((q10.div q00).mul q01)))) (A1 := M1) (A2 := M2) (A3 := M3) tB1 np1
  rw [← hY] at tB1
  replace s0_1 := set5_cell (q := (q00.mul (q11.sub ((q10.div q00).mul q01)))) (A1 := M1) (A2 := M2) (A3 := M3) s0_1 np2
  rw [← hY] at s0_1
  replace tB2 := set5_cell (q := (q00.mul (q11.sub ((q10.div q00).mul q01)))) (A1 := M1) (A2 := M2) (A3 := M3) tB2 np1
  rw [← hY] at tB2
  replace s0_2 := set5_cell (q := (q00.mul (q11.sub ((q10.div q00).mul q01)))) (A1 := M1) (A2 := M2) (A3 := M3) s0_2 np2
  rw [← hY] at s0_2
  replace tB3 := set5_cell (q := (q00.mul (q11.sub ((q10.div q00).mul q01)))) (A1 := M1) (A2 := M2) (A3 := M3) tB3 np1
  rw [← hY] at tB3
  replace s0_3 := set5_cell (q := (q00.mul (q11.sub ((q10.div q00).mul q01)))) (A1 := M1) (A2 := M2) (A3 := M3) s0_3 np2
  rw [← hY] at s0_3
  replace tB4 := set5_cell (q := (q00.mul (q11.sub ((q10.div q00).mul q01)))) (A1 := M1) (A2 := M2) (A3 := M3) tB4 np1
  rw [← hY] at tB4
  replace s0_4 := set5_cell (q := (q00.mul (q11.sub ((q10.div q00).mul q01)))) (A1 := M1) (A2 := M2) (A3 := M3) s0_4 np2
  rw [← hY] at s0_4
  replace g0_0 := set5_frozen (p := gd) (q := (q00.mul (q11.sub ((q10.div q00).mul q01)))) (A1 := M1) (A2 := M2) (A3 := M3) g0_0
  rw [← hY] at g0_0
  replace g0_1 := set5_frozen (p := gd) (q := (q00.mul (q11.sub ((q10.div q00).mul q01)))) (A1 := M1) (A2 := M2) (A3 := M3) g0_1
  rw [← hY] at g0_1
  replace g0_2 := set5_frozen (p := gd) (q := (q00.mul (q11.sub ((q10.div q00).mul q01)))) (A1 := M1) (A2 := M2) (A3 := M3) g0_2
  rw [← hY] at g0_2
  replace g0_3 := set5_frozen (p := gd) (q := (q00.mul (q11.sub ((q10.div q00).mul q01)))) (A1 := M1) (A2 := M2) (A3 := M3) g0_3
  rw [← hY] at g0_3
  replace g0_4 := set5_frozen (p := gd) (q := (q00.mul (q11.sub ((q10.div q00).mul q01)))) (A1 := M1) (A2 := M2) (A3 := M3) g0_4
  rw [← hY] at g0_4
  have D5 := set5_self (q := (q00.mul (q11.sub ((q10.div q00).mul q01)))) (A1 := M1) (A2 := M2) (A3 := M3) tD0 tD1 tD2 tD3 tD4
  rw [← hY] at D5
  replace hM := set5_num3 (q := (q00.mul (q11.sub ((q10.div q00).mul q01)))) (A1 := M1) (A2 := M2) (A3 := M3) hM tD0
  rw [← hY] at hM
  replace HW : Hid (Below w.heap.size w Y) := by rw [hY]; exact Lib.hid (set5_below HW.out np4)
  have l0' : w.heap.size < Y.heap.size := by rw [hY, set5_size]; exact l0
  clear hY tD0 tD1 tD2 tD3 tD4 VD W11 r0 r1 r2 r3 r4 f0 f1 f2 f3 f4 e0 e1 e2 e3 e4 l0 l1
  refine hK.out _ _ ?_ (fun hHeld => ?_)
  · exact ⟨c0, c1, tB0, tB1, tB2, tB3, tB4⟩
  clear hK K
  try simp only [Act.put, List.setIfInBounds_toArray, List.set_cons_zero, List.set_cons_succ]
  refine wpAnyH_done (by kernel_rfl) ?_ _
  obtain ⟨tD0, tD1, tD2, tD3, tD4⟩ := D5
  go_wp2_with fail
  rw [rounds_succ]
  go_wp2_with fail
  obtain ⟨Z, hZ⟩ : ∃ X : World, X = set5 Y (w.heap.size) (q00.mul (q11.sub ((q10.div q00).mul q01))) M1 M2 M3 := ⟨_, rfl⟩
  have hw : set5 Y (w.heap.size) (q00.mul (q11.sub ((q10.div q00).mul q01))) M1 M2 M3 = Z := hZ.symm
  unfold set5 at hw
  rw [hw]
  clear hw
  have k5 := set5_self (q := (q00.mul (q11.sub ((q10.div q00).mul q01)))) (A1 := M1) (A2 := M2) (A3 := M3) s0_0 s0_1 s0_2 s0_3 s0_4
  rw [← hZ] at k5
  replace hM := set5_num3 (q := (q00.mul (q11.sub ((q10.div q00).mul q01)))) (A1 := M1) (A2 := M2) (A3 := M3) hM s0_0
  rw [← hZ] at hM
  replace HW : Hid (Below w.heap.size w Z) := by rw [hZ]; exact Lib.hid (set5_below HW.out (Nat.le_refl _))
  clear hZ
  obtain ⟨k0, k1, k2, k3, k4⟩ := k5
  exact bodyPost_ret (v := .tuple #[.agg #[.bool (sn (na (q00.mul (q11.sub ((q10.div q00).mul q01))))), .slice M1 (ln (ab (na (q00.mul (q11.sub ((q10.div q00).mul q01)))))) (ln (ab (na (q00.mul (q11.sub ((q10.div q00).mul q01)))))), .bool (sn (nb (q00.mul (q11.sub ((q10.div q00).mul q01))))), .slice M2 (ln (ab (nb (q00.mul (q11.sub ((q10.div q00).mul q01)))))) (ln (ab (nb (q00.mul (q11.sub ((q10.div q00).mul q01)))))), .slice M3 (ln (un (q00.mul (q11.sub ((q10.div q00).mul q01))))) (ln (un (q00.mul (q11.sub ((q10.div q00).mul q01)))))], .int .i64 0]) (by simp [results, Tryz.results94, go_sem, k0, k1, k2, k3, k4]) rfl ⟨M1, M2, M3, rfl, hM, HW.out⟩

end Go.Proofs.YtgpmlhpgdalheaaGreat
