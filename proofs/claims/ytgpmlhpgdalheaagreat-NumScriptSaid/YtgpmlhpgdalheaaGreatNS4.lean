/- Part 4 of the proof. -/
import Derived.Test.YtgpmlhpgdalheaaGreatNS3
import Derived.Test.YtgpmlhpgdalheaaGreatNS1
import Derived.WalkLawsBesides
import Derived.LoopN
namespace Go.Proofs.YtgpmlhpgdalheaaGreat
open Go.RowKit Pl
set_option linter.unusedVariables false
set_option linter.unusedSimpArgs false
/-- The cells of a row of two numbers. -/
def row2 (x y : Cx) (A1 A2 A3 B1 B2 B3 : Option Addr) : List Value := [.bool (sn (na x)), .slice A1 (ln (ab (na x))) (ln (ab (na x))), .bool (sn (nb x)), .slice A2 (ln (ab (nb x))) (ln (ab (nb x))), .slice A3 (ln (un x)) (ln (un x)), .bool (sn (na y)), .slice B1 (ln (ab (na y))) (ln (ab (na y))), .bool (sn (nb y)), .slice B2 (ln (ab (nb y))) (ln (ab (nb y))), .slice B3 (ln (un y)) (ln (un y))]
theorem row2_len (x y : Cx) (A1 A2 A3 B1 B2 B3 : Option Addr) : (row2 x y A1 A2 A3 B1 B2 B3).length = 2 * 5 := rfl
theorem row2_one (x y : Cx) (A1 A2 A3 B1 B2 B3 : Option Addr) : ∀ u ∈ row2 x y A1 A2 A3 B1 B2 B3, u.oneCell' = true := by
  intro u hu
  simp only [row2, List.mem_cons, List.not_mem_nil, or_false] at hu
  rcases hu with rfl | rfl | rfl | rfl | rfl | rfl | rfl | rfl | rfl | rfl <;> rfl
theorem row2_cells {w : World} {g : Nat} {x y : Cx} {A1 A2 A3 B1 B2 B3 : Option Addr} (h : VarAt w g x A1 A2 A3) (k : At5 w g y B1 B2 B3) : ∀ j u, (row2 x y A1 A2 A3 B1 B2 B3)[j]? = some u → w.cell? ⟨g, j, none⟩ = some u := by
  obtain ⟨_, ⟨c0, c1, c2, c3, c4⟩, _⟩ := h
  obtain ⟨_, ⟨d0, d1, d2, d3, d4⟩, _⟩ := k
  intro j u hj
  match j, hj with
  | 0, hj => injection hj with hj; rw [← hj]; exact c0
  | 1, hj => injection hj with hj; rw [← hj]; exact c1
  | 2, hj => injection hj with hj; rw [← hj]; exact c2
  | 3, hj => injection hj with hj; rw [← hj]; exact c3
  | 4, hj => injection hj with hj; rw [← hj]; exact c4
  | 5, hj => injection hj with hj; rw [← hj]; exact d0
  | 6, hj => injection hj with hj; rw [← hj]; exact d1
  | 7, hj => injection hj with hj; rw [← hj]; exact d2
  | 8, hj => injection hj with hj; rw [← hj]; exact d3
  | 9, hj => injection hj with hj; rw [← hj]; exact d4
  | j + 10, hj => simp [row2] at hj
theorem own_row2 {w : World} {b r a : Nat} {x y : Cx} {A1 A2 A3 B1 B2 B3 : Option Addr} (h : w.ownsRow b 30 5 (.slice (some ⟨r, 0, none⟩) 2 a) 2 (row2 x y A1 A2 A3 B1 B2 B3)) (hx : Num3 w A1 A2 A3 x) (hy : Num3 w B1 B2 B3 y) :
    VarAt w r x A1 A2 A3 ∧ At5 w r y B1 B2 B3 ∧ (∀ i, w.frozen? ⟨r, i, none⟩ = false) ∧ b ≤ r := by
  have hl := h.lt r rfl
  have hc : ∀ j u, (row2 x y A1 A2 A3 B1 B2 B3)[j]? = some u → w.cell? ⟨r, j, none⟩ = some u := fun j u hj => by
    have := h.cells (g := r) rfl j u hj
    rwa [show (⟨r, 0, none⟩ : Addr).add j = ⟨r, j, none⟩ by simp only [Addr.add]; split <;> simp_all] at this
  refine ⟨⟨hl.2, ⟨hc 0 _ rfl, hc 1 _ rfl, hc 2 _ rfl, hc 3 _ rfl, hc 4 _ rfl⟩, hx⟩, ⟨hl.2, ⟨hc 5 _ rfl, hc 6 _ rfl, hc 7 _ rfl, hc 8 _ rfl, hc 9 _ rfl⟩, hy⟩, fun i => ?_, hl.1⟩
  rcases h.2 with ⟨e, _⟩ | ⟨g, cap, cur, e, _, hg, _⟩
  · cases e
  · injection e with e; injection e with e; injection e with e
    subst e
    simp [World.frozen?, hg]
theorem keepcB {W w1 : World} {B : Nat} (hb : Below B W w1) {b i : Nat} {v : Value} (h : W.cell? ⟨b, i, none⟩ = some v) (hlt : b < B) : w1.cell? ⟨b, i, none⟩ = some v := (hb.cell (p := ⟨b, i, none⟩) hlt).trans h
theorem keepfB {W w1 : World} {B : Nat} (hb : Below B W w1) {b i : Nat} {v : Bool} (h : W.frozen? ⟨b, i, none⟩ = v) (hlt : b < B) : w1.frozen? ⟨b, i, none⟩ = v := (hb.frozen (p := ⟨b, i, none⟩) hlt).trans h
set_option maxRecDepth 100000 in
set_option maxHeartbeats 4000000 in
theorem det2 (w : World) (b g0 g1 k0 k1 c : Nat) (q00 q01 q10 q11 : Cx) (A1 A2 A3 B1 B2 B3 C1 C2 C3 E1 E2 E3 : Option Addr) (m0 : w.cell? ⟨b, 0, none⟩ = some (.slice (some ⟨g0, 0, none⟩) 2 k0)) (m1 : w.cell? ⟨b, 1, none⟩ = some (.slice (some ⟨g1, 0, none⟩) 2 k1)) (hb : b < w.heap.size) (V00 : VarAt w g0 q00 A1 A2 A3) (V01 : At5 w g0 q01 B1 B2 B3) (V10 : VarAt w g1 q10 C1 C2 C3) (V11 : At5 w g1 q11 E1 E2 E3) (z00 : sz 2 q00) (z01 : sz 2 q01) (z10 : sz 2 q10) (z11 : sz 2 q11) (h00 : q00 ≠ Cx.zero) (h11 : (q11.sub ((q10.div q00).mul q01)) ≠ Cx.zero) :
    Calls Tryz.prog 94 #[.slice (some ⟨b, 0, none⟩) 2 c] w (RetNumE w 0 (q00.mul (q11.sub ((q10.div q00).mul q01)))) := by
  have H00 := Lib.hid h00
  have H11 := Lib.hid h11
  clear h00 h11
  go_enter Tryz.func94, Tryz.ntmps94
  go_wp2_with fail
  obtain ⟨W, hW⟩ : ∃ W : World, W = ((w.alloc (.cells #[.bool false, .slice none 0 0, .bool false, .slice none 0 0, .slice none 0 0] 30)).alloc (.cells #[.bool false, .slice none 0 0, .bool false, .slice none 0 0, .slice none 0 0] 30)) := ⟨_, rfl⟩
  have s0_0 : W.cell? ⟨w.heap.size, 0, none⟩ = some (.bool false) := by subst hW; go_simp
  have g0_0 : W.frozen? ⟨w.heap.size, 0, none⟩ = false := by subst hW; go_simp
  have s0_1 : W.cell? ⟨w.heap.size, 1, none⟩ = some (.slice none 0 0) := by subst hW; go_simp
  have g0_1 : W.frozen? ⟨w.heap.size, 1, none⟩ = false := by subst hW; go_simp
  have s0_2 : W.cell? ⟨w.heap.size, 2, none⟩ = some (.bool false) := by subst hW; go_simp
  have g0_2 : W.frozen? ⟨w.heap.size, 2, none⟩ = false := by subst hW; go_simp
  have s0_3 : W.cell? ⟨w.heap.size, 3, none⟩ = some (.slice none 0 0) := by subst hW; go_simp
  have g0_3 : W.frozen? ⟨w.heap.size, 3, none⟩ = false := by subst hW; go_simp
  have s0_4 : W.cell? ⟨w.heap.size, 4, none⟩ = some (.slice none 0 0) := by subst hW; go_simp
  have g0_4 : W.frozen? ⟨w.heap.size, 4, none⟩ = false := by subst hW; go_simp
  have r0 : W.cell? ⟨w.heap.size + 1, 0, none⟩ = some (.bool false) := by subst hW; go_simp
  have f0 : W.frozen? ⟨w.heap.size + 1, 0, none⟩ = false := by subst hW; go_simp
  have r1 : W.cell? ⟨w.heap.size + 1, 1, none⟩ = some (.slice none 0 0) := by subst hW; go_simp
  have f1 : W.frozen? ⟨w.heap.size + 1, 1, none⟩ = false := by subst hW; go_simp
  have r2 : W.cell? ⟨w.heap.size + 1, 2, none⟩ = some (.bool false) := by subst hW; go_simp
  have f2 : W.frozen? ⟨w.heap.size + 1, 2, none⟩ = false := by subst hW; go_simp
  have r3 : W.cell? ⟨w.heap.size + 1, 3, none⟩ = some (.slice none 0 0) := by subst hW; go_simp
  have f3 : W.frozen? ⟨w.heap.size + 1, 3, none⟩ = false := by subst hW; go_simp
  have r4 : W.cell? ⟨w.heap.size + 1, 4, none⟩ = some (.slice none 0 0) := by subst hW; go_simp
  have f4 : W.frozen? ⟨w.heap.size + 1, 4, none⟩ = false := by subst hW; go_simp
  have HW : Below w.heap.size w W := by subst hW; exact (((Below.refl w.heap.size w).alloc (Nat.le_refl _) _).alloc (by simp) _)
  have l0 : w.heap.size < W.heap.size := by subst hW; simp <;> omega
  have l1 : w.heap.size + 1 < W.heap.size := by subst hW; simp
  have n0 : w.heap.size ≠ w.heap.size + 1 := by omega
  replace V00 := V00.to HW
  replace V01 := V01.to HW
  replace V10 := V10.to HW
  replace V11 := V11.to HW
  rw [← hW]
  clear hW
  replace HW := Lib.hid HW
  replace m0 := keepc HW.out m0 hb
  replace m1 := keepc HW.out m1 hb
  have l50 : b < W.heap.size := Nat.lt_of_lt_of_le hb HW.out.size
  refine (square2 _ b g0 g1 k0 k1 c (by exact m0) (by exact m1) l50).mono ?_
  rintro e w1 ⟨rfl, hb1⟩
  replace s0_0 := keepc hb1 s0_0 l0
  replace g0_0 := keepf hb1 g0_0 l0
  replace s0_1 := keepc hb1 s0_1 l0
  replace g0_1 := keepf hb1 g0_1 l0
  replace s0_2 := keepc hb1 s0_2 l0
  replace g0_2 := keepf hb1 g0_2 l0
  replace s0_3 := keepc hb1 s0_3 l0
  replace g0_3 := keepf hb1 g0_3 l0
  replace s0_4 := keepc hb1 s0_4 l0
  replace g0_4 := keepf hb1 g0_4 l0
  replace m0 := keepc hb1 m0 l50
  replace m1 := keepc hb1 m1 l50
  replace r0 := keepc hb1 r0 l1
  replace f0 := keepf hb1 f0 l1
  replace r1 := keepc hb1 r1 l1
  replace f1 := keepf hb1 f1 l1
  replace r2 := keepc hb1 r2 l1
  replace f2 := keepf hb1 f2 l1
  replace r3 := keepc hb1 r3 l1
  replace f3 := keepf hb1 f3 l1
  replace r4 := keepc hb1 r4 l1
  replace f4 := keepf hb1 f4 l1
  replace l0 := Nat.lt_of_lt_of_le l0 hb1.size
  replace l1 := Nat.lt_of_lt_of_le l1 hb1.size
  replace l50 := Nat.lt_of_lt_of_le l50 hb1.size
  replace V00 := V00.to hb1
  replace V01 := V01.to hb1
  replace V10 := V10.to hb1
  replace V11 := V11.to hb1
  replace HW := Lib.hid (hstep HW hb1)
  clear hb1
  go_wp2_with fail
  have z0 := l0
  have z1 := l1
  have y00 := V00.2.2
  have y01 := V01.2.2
  have y10 := V10.2.2
  have y11 := V11.2.2
  refine (copied2 _ b g0 g1 k0 k1 c (row2 q00 q01 A1 A2 A3 B1 B2 B3) (row2 q10 q11 C1 C2 C3 E1 E2 E3) (by exact m0) (by exact m1) l50 (row2_len ..) (row2_len ..) (row2_cells V00 V01) (row2_cells V10 V11) (row2_one _ _ _ _ _ _ _ _) (row2_one _ _ _ _ _ _ _ _) V00.1 V10.1).mono ?_
  rintro e w2 ⟨p, t0, t1, a0, a1, rfl, d0, d1, o0, o1, ne, hpw, hpl, fp0, fp1, hb2⟩
  have nsz := hb2.size
  replace s0_0 := keepc hb2 s0_0 l0
  replace g0_0 := keepf hb2 g0_0 l0
  replace s0_1 := keepc hb2 s0_1 l0
  replace g0_1 := keepf hb2 g0_1 l0
  replace s0_2 := keepc hb2 s0_2 l0
  replace g0_2 := keepf hb2 g0_2 l0
  replace s0_3 := keepc hb2 s0_3 l0
  replace g0_3 := keepf hb2 g0_3 l0
  replace s0_4 := keepc hb2 s0_4 l0
  replace g0_4 := keepf hb2 g0_4 l0
  replace m0 := keepc hb2 m0 l50
  replace m1 := keepc hb2 m1 l50
  replace r0 := keepc hb2 r0 l1
  replace f0 := keepf hb2 f0 l1
  replace r1 := keepc hb2 r1 l1
  replace f1 := keepf hb2 f1 l1
  replace r2 := keepc hb2 r2 l1
  replace f2 := keepf hb2 f2 l1
  replace r3 := keepc hb2 r3 l1
  replace f3 := keepf hb2 f3 l1
  replace r4 := keepc hb2 r4 l1
  replace f4 := keepf hb2 f4 l1
  replace l0 := Nat.lt_of_lt_of_le l0 hb2.size
  replace l1 := Nat.lt_of_lt_of_le l1 hb2.size
  replace l50 := Nat.lt_of_lt_of_le l50 hb2.size
  replace V00 := V00.to hb2
  replace V01 := V01.to hb2
  replace V10 := V10.to hb2
  replace V11 := V11.to hb2
  replace y00 := y00.to hb2
  replace y01 := y01.to hb2
  replace y10 := y10.to hb2
  replace y11 := y11.to hb2
  replace HW := Lib.hid (hstep HW hb2)
  clear hb2
  go_wp2_with fail
  obtain ⟨VV00, VV01, _, _⟩ := own_row2 o0 y00 y01
  obtain ⟨VV10, VV11, fr1, hpt⟩ := own_row2 o1 y10 y11
  have HX : Hid (w1.heap.size ≤ t1 ∧ p ≠ t1 ∧ w.heap.size ≤ w1.heap.size) := Lib.hid (by omega)
  refine (elim2 _ w1.heap.size p t0 t1 a0 a1 q00 q01 q10 q11 A1 A2 A3 B1 B2 B3 C1 C2 C3 E1 E2 E3 d0 d1 VV00 VV01 VV10 VV11 (fr1 5) (fr1 6) (fr1 7) (fr1 8) (fr1 9) hpl nsz HX.out.1 ne HX.out.2.1 z00 z01 z10 z11 H00.out H11.out).mono ?_
  rintro e w3 ⟨rfl, c0, c1, W00, ⟨U1, U2, U3, W11⟩, hbB⟩
  replace s0_0 := keepcB hbB s0_0 z0
  replace g0_0 := keepfB hbB g0_0 z0
  replace r0 := keepcB hbB r0 z1
  replace f0 := keepfB hbB f0 z1
  replace s0_1 := keepcB hbB s0_1 z0
  replace g0_1 := keepfB hbB g0_1 z0
  replace r1 := keepcB hbB r1 z1
  replace f1 := keepfB hbB f1 z1
  replace s0_2 := keepcB hbB s0_2 z0
  replace g0_2 := keepfB hbB g0_2 z0
  replace r2 := keepcB hbB r2 z1
  replace f2 := keepfB hbB f2 z1
  replace s0_3 := keepcB hbB s0_3 z0
  replace g0_3 := keepfB hbB g0_3 z0
  replace r3 := keepcB hbB r3 z1
  replace f3 := keepfB hbB f3 z1
  replace s0_4 := keepcB hbB s0_4 z0
  replace g0_4 := keepfB hbB g0_4 z0
  replace r4 := keepcB hbB r4 z1
  replace f4 := keepfB hbB f4 z1
  replace HW := Lib.hid (HW.out.trans (hbB.mono HX.out.2.2))
  replace l0 := Nat.lt_of_lt_of_le l0 hbB.size
  replace l1 := Nat.lt_of_lt_of_le l1 hbB.size
  replace hpl := Nat.lt_of_lt_of_le hpl hbB.size
  clear m0 m1 l50 V00 V01 V10 V11 y00 y01 y10 y11 d0 d1 o0 o1 VV00 VV01 VV10 VV11 fr1 hpt fp0 fp1 ne nsz hbB z0 z1 HX hpw
  go_upto_region 6 with fail
  obtain ⟨X1, hX1⟩ : ∃ X : World, X = w3.alloc (.cells #[.int .i64 (-1)] 3) := ⟨_, rfl⟩
  rw [← hX1]
  have b3 : Below w3.heap.size w3 X1 := by rw [hX1]; exact (Below.refl _ _).alloc (Nat.le_refl _) _
  have sp : X1.cell? ⟨w3.heap.size, 0, none⟩ = some (.int .i64 (-1)) := by subst hX1; go_simp
  clear hX1
  replace s0_0 := keepc b3 s0_0 l0
  replace g0_0 := keepf b3 g0_0 l0
  replace r0 := keepc b3 r0 l1
  replace f0 := keepf b3 f0 l1
  replace s0_1 := keepc b3 s0_1 l0
  replace g0_1 := keepf b3 g0_1 l0
  replace r1 := keepc b3 r1 l1
  replace f1 := keepf b3 f1 l1
  replace s0_2 := keepc b3 s0_2 l0
  replace g0_2 := keepf b3 g0_2 l0
  replace r2 := keepc b3 r2 l1
  replace f2 := keepf b3 f2 l1
  replace s0_3 := keepc b3 s0_3 l0
  replace g0_3 := keepf b3 g0_3 l0
  replace r3 := keepc b3 r3 l1
  replace f3 := keepf b3 f3 l1
  replace s0_4 := keepc b3 s0_4 l0
  replace g0_4 := keepf b3 g0_4 l0
  replace r4 := keepc b3 r4 l1
  replace f4 := keepf b3 f4 l1
  replace c0 := keepc b3 c0 hpl
  replace c1 := keepc b3 c1 hpl
  replace W11 := W11.to b3
  replace l0 := Nat.lt_of_lt_of_le l0 b3.size
  replace l1 := Nat.lt_of_lt_of_le l1 b3.size
  replace hpl := Nat.lt_of_lt_of_le hpl b3.size
  replace W00 := W00.to b3
  replace HW := Lib.hid (hstep HW b3)
  clear b3
  generalize w3.heap.size = gs at *
  obtain ⟨tA0, tA1, tA2, tA3, tA4⟩ := W00.2.1
  go_wp2_with fail
  obtain ⟨X, hX⟩ : ∃ X : World, X = X1.alloc (.cells #[.bool (sn (na q00)), .slice A1 (ln (ab (na q00))) (ln (ab (na q00))), .bool (sn (nb q00)), .slice A2 (ln (ab (nb q00))) (ln (ab (nb q00))), .slice A3 (ln (un q00)) (ln (un q00))] 30) := ⟨_, rfl⟩
  rw [← hX]
  have b4 : Below X1.heap.size X1 X := by rw [hX]; exact (Below.refl _ _).alloc (Nat.le_refl _) _
  have e0 : X.frozen? ⟨X1.heap.size, 0, none⟩ = false := by subst hX; go_simp
  have e1 : X.frozen? ⟨X1.heap.size, 1, none⟩ = false := by subst hX; go_simp
  have e2 : X.frozen? ⟨X1.heap.size, 2, none⟩ = false := by subst hX; go_simp
  have e3 : X.frozen? ⟨X1.heap.size, 3, none⟩ = false := by subst hX; go_simp
  have e4 : X.frozen? ⟨X1.heap.size, 4, none⟩ = false := by subst hX; go_simp
  have VD : VarAt X X1.heap.size q00 A1 A2 A3 := ⟨by rw [hX]; simp, ⟨by subst hX; go_simp, by subst hX; go_simp, by subst hX; go_simp, by subst hX; go_simp, by subst hX; go_simp⟩, W00.2.2.to b4⟩
  clear tA0 tA1 tA2 tA3 tA4 hX sp
  have hd : Hid (w.heap.size < X1.heap.size ∧ w.heap.size + 1 < X1.heap.size ∧ p < X1.heap.size ∧ t1 < X1.heap.size) := Lib.hid (by have := W11.1; omega)
  replace s0_0 := keepc b4 s0_0 l0
  replace g0_0 := keepf b4 g0_0 l0
  replace r0 := keepc b4 r0 l1
  replace f0 := keepf b4 f0 l1
  replace s0_1 := keepc b4 s0_1 l0
  replace g0_1 := keepf b4 g0_1 l0
  replace r1 := keepc b4 r1 l1
  replace f1 := keepf b4 f1 l1
  replace s0_2 := keepc b4 s0_2 l0
  replace g0_2 := keepf b4 g0_2 l0
  replace r2 := keepc b4 r2 l1
  replace f2 := keepf b4 f2 l1
  replace s0_3 := keepc b4 s0_3 l0
  replace g0_3 := keepf b4 g0_3 l0
  replace r3 := keepc b4 r3 l1
  replace f3 := keepf b4 f3 l1
  replace s0_4 := keepc b4 s0_4 l0
  replace g0_4 := keepf b4 g0_4 l0
  replace r4 := keepc b4 r4 l1
  replace f4 := keepf b4 f4 l1
  replace c0 := keepc b4 c0 hpl
  replace c1 := keepc b4 c1 hpl
  replace W11 := W11.to b4
  replace l0 := Nat.lt_of_lt_of_le l0 b4.size
  replace l1 := Nat.lt_of_lt_of_le l1 b4.size
  replace hpl := Nat.lt_of_lt_of_le hpl b4.size
  replace HW := Lib.hid (hstep HW b4)
  clear b4 W00
  generalize X1.heap.size = gd at *
  have np0 : p ≠ gd := by have := hd.out; omega
  have np1 : t1 ≠ gd := by have := hd.out; omega
  have np2 : w.heap.size ≠ gd := by have := hd.out; omega
  have np3 : w.heap.size + 1 ≠ gd := by have := hd.out; omega
  have np4 : w.heap.size ≤ gd := by have := hd.out; omega
  clear hd
  have zU : sz 61 (q11.sub ((q10.div q00).mul q01)) := sz_sub (z11.mono (by decide : 2 ≤ 30)) ((sz_mul (sz_div (by decide) z10 z00 H00.out) (z01.mono (by decide : 2 ≤ 10))).mono (by decide : 21 ≤ 30))
  have hmMul : ∀ (k : Nat) (v1 v2 v3 v4 v5 : Value) (w : World), (method (k + 1) 30 (.agg #[v1, v2, v3, v4, v5]) "Mul").run Tryz.prog w = .ok (30, .agg #[v1, v2, v3, v4, v5]) w := fun _ _ _ _ _ _ _ => by kernel_rfl
  refine wp_loop_rounds 2 ?_
  rw [rounds_succ]
  obtain ⟨tB0, tB1, tB2, tB3, tB4⟩ := W11.2.1
  obtain ⟨tD0, tD1, tD2, tD3, tD4⟩ := VD.2.1
  go_wp2_with fail
  refine wp_region_held_drew (S := fun w' => w'.cell? ⟨p, 0, none⟩ = some (.slice (some ⟨t0, 0, none⟩) 2 a0) ∧ w'.cell? ⟨p, 1, none⟩ = some (.slice (some ⟨t1, 0, none⟩) 2 a1) ∧ w'.cell? ⟨t1, 5, none⟩ = some (.bool (sn (na (q11.sub ((q10.div q00).mul q01))))) ∧ w'.cell? ⟨t1, 6, none⟩ = some (.slice U1 (ln (ab (na (q11.sub ((q10.div q00).mul q01))))) (ln (ab (na (q11.sub ((q10.div q00).mul q01)))))) ∧ w'.cell? ⟨t1, 7, none⟩ = some (.bool (sn (nb (q11.sub ((q10.div q00).mul q01))))) ∧ w'.cell? ⟨t1, 8, none⟩ = some (.slice U2 (ln (ab (nb (q11.sub ((q10.div q00).mul q01))))) (ln (ab (nb (q11.sub ((q10.div q00).mul q01)))))) ∧ w'.cell? ⟨t1, 9, none⟩ = some (.slice U3 (ln (un (q11.sub ((q10.div q00).mul q01)))) (ln (un (q11.sub ((q10.div q00).mul q01)))))) (by kernel_rfl) ?_ (fun hHeld => ?_)
  · exact ⟨c0, c1, tB0, tB1, tB2, tB3, tB4⟩
  refine takeH (i := 2) (d := 52) (v := ?v201) rfl rfl (by kernel_rfl) (by kernel_rfl) (by kernel_rfl) (fun _ _ _ h => h) (Or.inl ⟨by rfl, ?y201⟩) (by assumption) ?r201
  case y201 => (intro w hSw; (try dsimp only at hSw); go_simp; try with_reducible rfl)
  try simp only [Act.put, List.setIfInBounds_toArray, List.set_cons_zero, List.set_cons_succ]
  refine takeH (i := 3) (d := 53) (v := ?v202) rfl rfl (by kernel_rfl) (by kernel_rfl) (by kernel_rfl) (fun _ _ _ h => h) (Or.inl ⟨by rfl, ?y202⟩) (by assumption) ?r202
  case y202 => (intro w hSw; (try dsimp only at hSw); go_simp; try with_reducible rfl)
  try simp only [Act.put, List.setIfInBounds_toArray, List.set_cons_zero, List.set_cons_succ]
  refine takeH (i := 4) (d := 54) (v := ?v203) rfl rfl (by kernel_rfl) (by kernel_rfl) (by kernel_rfl) (fun _ _ _ h => h) (Or.inl ⟨by rfl, ?y203⟩) (by assumption) ?r203
  case y203 => (intro w hSw; (try dsimp only at hSw); go_simp; try with_reducible rfl)
  try simp only [Act.put, List.setIfInBounds_toArray, List.set_cons_zero, List.set_cons_succ]
  refine takeH (i := 5) (d := 55) (v := ?v204) rfl rfl (by kernel_rfl) (by kernel_rfl) (by kernel_rfl) (fun _ _ _ h => h) (Or.inl ⟨by rfl, ?y204⟩) (by assumption) ?r204
  case y204 => (intro w hSw; (try dsimp only at hSw); go_simp; try with_reducible rfl)
  try simp only [Act.put, List.setIfInBounds_toArray, List.set_cons_zero, List.set_cons_succ]
  refine takeH (i := 6) (d := 56) (v := ?v205) rfl rfl (by kernel_rfl) (by kernel_rfl) (by kernel_rfl) (fun _ _ _ h => h) (Or.inl ⟨by rfl, ?y205⟩) (by assumption) ?r205
  case y205 => (intro w hSw; (try dsimp only at hSw); go_simp; try with_reducible rfl)
  try simp only [Act.put, List.setIfInBounds_toArray, List.set_cons_zero, List.set_cons_succ]
  refine takeH (i := 7) (d := 57) (v := ?v206) rfl rfl (by kernel_rfl) (by kernel_rfl) (by kernel_rfl) (fun _ _ _ h => h) (Or.inl ⟨by rfl, ?y206⟩) (by assumption) ?r206
  case y206 => (intro w hSw; (try dsimp only at hSw); go_simp; try with_reducible rfl)
  try simp only [Act.put, List.setIfInBounds_toArray, List.set_cons_zero, List.set_cons_succ]
  refine takeH (i := 8) (d := 58) (v := ?v207) rfl rfl (by kernel_rfl) (by kernel_rfl) (by kernel_rfl) (fun _ _ _ h => h) (Or.inl ⟨by rfl, ?y207⟩) (by assumption) ?r207
  case y207 => (intro w hSw; (try dsimp only at hSw); go_simp; try with_reducible rfl)
  try simp only [Act.put, List.setIfInBounds_toArray, List.set_cons_zero, List.set_cons_succ]
  refine wpAnyH_ready (rs := [0]) (by kernel_rfl) (by simp) (AllReadyH.cons rfl (fun K hK => ?_) AllReadyH.nil)
  go_simp
  refine hK.out _ _ ?_ (fun hHeld => ?_)
  · exact ⟨c0, c1, tB0, tB1, tB2, tB3, tB4⟩
  clear hK K
  try simp only [Act.put, List.setIfInBounds_toArray, List.set_cons_zero, List.set_cons_succ]
  refine takeH (i := 1) (d := 51) (v := ?v208) rfl rfl (by kernel_rfl) (by kernel_rfl) (by kernel_rfl) (fun _ _ _ h => h) (Or.inl ⟨by rfl, ?y208⟩) (by assumption) ?r208
  case y208 => (intro w hSw; (try dsimp only at hSw); go_simp; try with_reducible rfl)
  try simp only [Act.put, List.setIfInBounds_toArray, List.set_cons_zero, List.set_cons_succ]
  refine wpAnyH_ready (rs := [9]) (by kernel_rfl) (by simp) (AllReadyH.cons rfl (fun K hK => ?_) AllReadyH.nil)
  go_simp
  refine (mul_num q00 (q11.sub ((q10.div q00).mul q01)) A1 A2 A3 U1 U2 U3 _ (by exact VD.2.2) (by exact W11.2.2) (z00.mono (by decide)) (zU.mono (by decide))).mono ?_
  rintro e w5 ⟨M1, M2, M3, rfl, hM, hb5⟩
  replace hb5 := undrew hb5
  clear tB0 tB1 tB2 tB3 tB4 tD0 tD1 tD2 tD3 tD4
  replace s0_0 := keepc hb5 s0_0 l0
  replace g0_0 := keepf hb5 g0_0 l0
  replace r0 := keepc hb5 r0 l1
  replace f0 := keepf hb5 f0 l1
  replace s0_1 := keepc hb5 s0_1 l0
  replace g0_1 := keepf hb5 g0_1 l0
  replace r1 := keepc hb5 r1 l1
  replace f1 := keepf hb5 f1 l1
  replace s0_2 := keepc hb5 s0_2 l0
  replace g0_2 := keepf hb5 g0_2 l0
  replace r2 := keepc hb5 r2 l1
  replace f2 := keepf hb5 f2 l1
  replace s0_3 := keepc hb5 s0_3 l0
  replace g0_3 := keepf hb5 g0_3 l0
  replace r3 := keepc hb5 r3 l1
  replace f3 := keepf hb5 f3 l1
  replace s0_4 := keepc hb5 s0_4 l0
  replace g0_4 := keepf hb5 g0_4 l0
  replace r4 := keepc hb5 r4 l1
  replace f4 := keepf hb5 f4 l1
  replace c0 := keepc hb5 c0 hpl
  replace c1 := keepc hb5 c1 hpl
  replace W11 := W11.to hb5
  replace l0 := Nat.lt_of_lt_of_le l0 hb5.size
  replace l1 := Nat.lt_of_lt_of_le l1 hb5.size
  replace hpl := Nat.lt_of_lt_of_le hpl hb5.size
  replace e0 := keepf hb5 e0 VD.1
  replace e1 := keepf hb5 e1 VD.1
  replace e2 := keepf hb5 e2 VD.1
  replace e3 := keepf hb5 e3 VD.1
  replace e4 := keepf hb5 e4 VD.1
  replace VD := VD.to hb5
  replace HW := Lib.hid (hstep HW hb5)
  clear hb5
  obtain ⟨tB0, tB1, tB2, tB3, tB4⟩ := W11.2.1
  obtain ⟨tD0, tD1, tD2, tD3, tD4⟩ := VD.2.1
  refine hK.out _ _ ?_ (fun hHeld => ?_)
  · exact ⟨c0, c1, tB0, tB1, tB2, tB3, tB4⟩
  clear hK K
  try simp only [Act.put, List.setIfInBounds_toArray, List.set_cons_zero, List.set_cons_succ]
  refine wpAnyH_ready (rs := [10]) (by kernel_rfl) (by simp) (AllReadyH.cons rfl (fun K hK => ?_) AllReadyH.nil)
  go_simp
  obtain ⟨Y, hY⟩ : ∃ X : World, X = set5 w5 (gd) (q00.mul (q11.sub ((q10.div q00).mul q01))) M1 M2 M3 := ⟨_, rfl⟩
  have hw : set5 w5 (gd) (q00.mul (q11.sub ((q10.div q00).mul q01))) M1 M2 M3 = Y := hY.symm
  unfold set5 at hw
  rw [hw]
  clear hw
  replace c0 := set5_cell (q := (q00.mul (q11.sub ((q10.div q00).mul q01)))) (A1 := M1) (A2 := M2) (A3 := M3) c0 np0
  rw [← hY] at c0
  replace c1 := set5_cell (q := (q00.mul (q11.sub ((q10.div q00).mul q01)))) (A1 := M1) (A2 := M2) (A3 := M3) c1 np0
  rw [← hY] at c1
  replace tB0 := set5_cell (q := (q00.mul (q11.sub ((q10.div q00).mul q01)))) (A1 := M1) (A2 := M2) (A3 := M3) tB0 np1
  rw [← hY] at tB0
  replace s0_0 := set5_cell (q := (q00.mul (q11.sub ((q10.div q00).mul q01)))) (A1 := M1) (A2 := M2) (A3 := M3) s0_0 np2
  rw [← hY] at s0_0
  replace tB1 := set5_cell (q := (q00.mul (q11.sub ((q10.div q00).mul q01)))) (A1 := M1) (A2 := M2) (A3 := M3) tB1 np1
  rw [← hY] at tB1
  replace s0_1 := set5_cell (q := (q00.mul (q11.sub ((q10.div q00).mul q01)))) (A1 := M1) (A2 := M2) (A3 := M3) s0_1 np2
  rw [← hY] at s0_1
  replace tB2 := set5_cell (q := (q00.mul (q11.sub ((q10.div q00).mul q01)))) (A1 := M1) (A2 := M2) (A3 := M3) tB2 np1
  rw [← hY] at tB2
  replace s0_2 := set5_cell (q := (q00.mul (q11.sub ((q10.div q00).mul q01)))) (A1 := M1) (A2 := M2) (A3 := M3) s0_2 np2
  rw [← hY] at s0_2
  replace tB3 := set5_cell (q := (q00.mul (q11.sub ((q10.div q00).mul q01)))) (A1 := M1) (A2 := M2) (A3 := M3) tB3 np1
  rw [← hY] at tB3
  replace s0_3 := set5_cell (q := (q00.mul (q11.sub ((q10.div q00).mul q01)))) (A1 := M1) (A2 := M2) (A3 := M3) s0_3 np2
  rw [← hY] at s0_3
  replace tB4 := set5_cell (q := (q00.mul (q11.sub ((q10.div q00).mul q01)))) (A1 := M1) (A2 := M2) (A3 := M3) tB4 np1
  rw [← hY] at tB4
  replace s0_4 := set5_cell (q := (q00.mul (q11.sub ((q10.div q00).mul q01)))) (A1 := M1) (A2 := M2) (A3 := M3) s0_4 np2
  rw [← hY] at s0_4
  replace g0_0 := set5_frozen (p := gd) (q := (q00.mul (q11.sub ((q10.div q00).mul q01)))) (A1 := M1) (A2 := M2) (A3 := M3) g0_0
  rw [← hY] at g0_0
  replace g0_1 := set5_frozen (p := gd) (q := (q00.mul (q11.sub ((q10.div q00).mul q01)))) (A1 := M1) (A2 := M2) (A3 := M3) g0_1
  rw [← hY] at g0_1
  replace g0_2 := set5_frozen (p := gd) (q := (q00.mul (q11.sub ((q10.div q00).mul q01)))) (A1 := M1) (A2 := M2) (A3 := M3) g0_2
  rw [← hY] at g0_2
  replace g0_3 := set5_frozen (p := gd) (q := (q00.mul (q11.sub ((q10.div q00).mul q01)))) (A1 := M1) (A2 := M2) (A3 := M3) g0_3
  rw [← hY] at g0_3
  replace g0_4 := set5_frozen (p := gd) (q := (q00.mul (q11.sub ((q10.div q00).mul q01)))) (A1 := M1) (A2 := M2) (A3 := M3) g0_4
  rw [← hY] at g0_4
  have D5 := set5_self (q := (q00.mul (q11.sub ((q10.div q00).mul q01)))) (A1 := M1) (A2 := M2) (A3 := M3) tD0 tD1 tD2 tD3 tD4
  rw [← hY] at D5
  replace hM := set5_num3 (q := (q00.mul (q11.sub ((q10.div q00).mul q01)))) (A1 := M1) (A2 := M2) (A3 := M3) hM tD0
  rw [← hY] at hM
  replace HW : Hid (Below w.heap.size w Y) := by rw [hY]; exact Lib.hid (set5_below HW.out np4)
  have l0' : w.heap.size < Y.heap.size := by rw [hY, set5_size]; exact l0
  clear hY tD0 tD1 tD2 tD3 tD4 VD W11 r0 r1 r2 r3 r4 f0 f1 f2 f3 f4 e0 e1 e2 e3 e4 l0 l1
  refine hK.out _ _ ?_ (fun hHeld => ?_)
  · exact ⟨c0, c1, tB0, tB1, tB2, tB3, tB4⟩
  clear hK K
  try simp only [Act.put, List.setIfInBounds_toArray, List.set_cons_zero, List.set_cons_succ]
  refine wpAnyH_done (by kernel_rfl) ?_ _
  obtain ⟨tD0, tD1, tD2, tD3, tD4⟩ := D5
  go_wp2_with fail
  rw [rounds_succ]
  go_wp2_with fail
  obtain ⟨Z, hZ⟩ : ∃ X : World, X = set5 Y (w.heap.size) (q00.mul (q11.sub ((q10.div q00).mul q01))) M1 M2 M3 := ⟨_, rfl⟩
  have hw : set5 Y (w.heap.size) (q00.mul (q11.sub ((q10.div q00).mul q01))) M1 M2 M3 = Z := hZ.symm
  unfold set5 at hw
  rw [hw]
  clear hw
  have k5 := set5_self (q := (q00.mul (q11.sub ((q10.div q00).mul q01)))) (A1 := M1) (A2 := M2) (A3 := M3) s0_0 s0_1 s0_2 s0_3 s0_4
  rw [← hZ] at k5
  replace hM := set5_num3 (q := (q00.mul (q11.sub ((q10.div q00).mul q01)))) (A1 := M1) (A2 := M2) (A3 := M3) hM s0_0
  rw [← hZ] at hM
  replace HW : Hid (Below w.heap.size w Z) := by rw [hZ]; exact Lib.hid (set5_below HW.out (Nat.le_refl _))
  clear hZ
  obtain ⟨k0, k1, k2, k3, k4⟩ := k5
  exact bodyPost_ret (v := .tuple #[.agg #[.bool (sn (na (q00.mul (q11.sub ((q10.div q00).mul q01))))), .slice M1 (ln (ab (na (q00.mul (q11.sub ((q10.div q00).mul q01)))))) (ln (ab (na (q00.mul (q11.sub ((q10.div q00).mul q01)))))), .bool (sn (nb (q00.mul (q11.sub ((q10.div q00).mul q01))))), .slice M2 (ln (ab (nb (q00.mul (q11.sub ((q10.div q00).mul q01)))))) (ln (ab (nb (q00.mul (q11.sub ((q10.div q00).mul q01)))))), .slice M3 (ln (un (q00.mul (q11.sub ((q10.div q00).mul q01))))) (ln (un (q00.mul (q11.sub ((q10.div q00).mul q01)))))], .int .i64 0]) (by simp [results, Tryz.results94, go_sem, k0, k1, k2, k3, k4]) rfl ⟨M1, M2, M3, rfl, hM, HW.out⟩
end Go.Proofs.YtgpmlhpgdalheaaGreat

namespace Go.Proofs.YtgpmlhpgdalheaaGreat
open Go.RowKit Pl
set_option linter.unusedVariables false
set_option linter.unusedSimpArgs false
theorem f64bits (x : Nat) (w : World) : (callFunc 92 #[.float .f64 x]).run Tryz.prog w = .ok (.value (.int .u64 x)) w := by kernel_rfl
theorem f64from (x : Nat) (w : World) : (callFunc 60 #[.int .u64 x]).run Tryz.prog w = .ok (.value (.float .f64 x)) w := by kernel_rfl
set_option maxRecDepth 100000 in
set_option maxHeartbeats 4000000 in
theorem ldexp_a (w : World) : Calls Tryz.prog 184 #[.float .f64 4844071759199705498, .int .i64 (-56)] w (fun e w' => e = .returned (.float .f64 4591870180066957722) ∧ w' = w) := by
  have h1 := f64bits
  have e0 : bits .andNot .u64 4844071759199705498 9223372036854775808 = 4844071759199705498 := by kernel_rfl
  have e1 : (FloatKind.f64.format.order 4844071759199705498 9218868437227405311 == some Ordering.gt) = false := by kernel_rfl
  have e2 : (FloatKind.f64.format.order 4844071759199705498 4844071759199705498 != some Ordering.eq) = false := by kernel_rfl
  have e3 : (FloatKind.f64.format.order 4844071759199705498 4503599627370496 == some Ordering.lt) = false := by kernel_rfl
  have e4 : (FloatKind.f64.format.order 4844071759199705498 0 == some Ordering.eq) = false := by kernel_rfl
  have e5 : bits .and .i64 1075 2047 = 1075 := by kernel_rfl
  have e6 : bits .andNot .u64 4844071759199705498 9218868437227405312 = 2702159776422298 := by kernel_rfl
  have e7 : bits .or .u64 2702159776422298 4589168020290535424 = 4591870180066957722 := by kernel_rfl
  have g0 : ∀ w, (callFunc 60 #[.int .u64 4844071759199705498]).run Tryz.prog w = .ok (.value (.float .f64 4844071759199705498)) w := fun w => f64from 4844071759199705498 w
  have g1 : ∀ w, (callFunc 60 #[.int .u64 4591870180066957722]).run Tryz.prog w = .ok (.value (.float .f64 4591870180066957722)) w := fun w => f64from 4591870180066957722 w
  have hm : ∀ w, (binOp .mul 44 (.float .f64 4607182418800017408) (.float .f64 4591870180066957722)).run Tryz.prog w = .ok (.float .f64 4591870180066957722) w := fun w => by kernel_rfl
  go_enter Tryz.func184, Tryz.ntmps184
  go_wp2
  go_ret
  exact ⟨rfl, rfl⟩
set_option maxRecDepth 100000 in
set_option maxHeartbeats 4000000 in
theorem ldexp_b (w : World) : Calls Tryz.prog 184 #[.float .f64 4843171039274231398, .int .i64 (-53)] w (fun e w' => e = .returned (.float .f64 4604480259023595110) ∧ w' = w) := by
  have h1 := f64bits
  have e0 : bits .andNot .u64 4843171039274231398 9223372036854775808 = 4843171039274231398 := by kernel_rfl
  have e1 : (FloatKind.f64.format.order 4843171039274231398 9218868437227405311 == some Ordering.gt) = false := by kernel_rfl
  have e2 : (FloatKind.f64.format.order 4843171039274231398 4843171039274231398 != some Ordering.eq) = false := by kernel_rfl
  have e3 : (FloatKind.f64.format.order 4843171039274231398 4503599627370496 == some Ordering.lt) = false := by kernel_rfl
  have e4 : (FloatKind.f64.format.order 4843171039274231398 0 == some Ordering.eq) = false := by kernel_rfl
  have e5 : bits .and .i64 1075 2047 = 1075 := by kernel_rfl
  have e6 : bits .andNot .u64 4843171039274231398 9218868437227405312 = 1801439850948198 := by kernel_rfl
  have e7 : bits .or .u64 1801439850948198 4602678819172646912 = 4604480259023595110 := by kernel_rfl
  have g0 : ∀ w, (callFunc 60 #[.int .u64 4843171039274231398]).run Tryz.prog w = .ok (.value (.float .f64 4843171039274231398)) w := fun w => f64from 4843171039274231398 w
  have g1 : ∀ w, (callFunc 60 #[.int .u64 4604480259023595110]).run Tryz.prog w = .ok (.value (.float .f64 4604480259023595110)) w := fun w => f64from 4604480259023595110 w
  have hm : ∀ w, (binOp .mul 44 (.float .f64 4607182418800017408) (.float .f64 4604480259023595110)).run Tryz.prog w = .ok (.float .f64 4604480259023595110) w := fun w => by kernel_rfl
  go_enter Tryz.func184, Tryz.ntmps184
  go_wp2
  go_ret
  exact ⟨rfl, rfl⟩
end Go.Proofs.YtgpmlhpgdalheaaGreat

namespace Go.Proofs.YtgpmlhpgdalheaaGreat
open Go.RowKit Pl
set_option linter.unusedVariables false
set_option linter.unusedSimpArgs false
theorem shl_to (x n : Nat) (A : Option Addr) (w : World) (hx : Nat32 w A x) (hbx : ln x ≤ 35184372088832) (hn : n ≤ 1099511627776) {k : Int} (hk : k = (n : Int)) {v : Nat} (h : x * 2 ^ n = v) :
    Calls Tryz.prog 114 #[.slice A (ln x) (ln x), .int .i64 k] w (RetNat w v) := by subst hk; exact h ▸ shl_any x n A w hx hbx hn
theorem cmpn_to (x y : Nat) (A B : Option Addr) (w : World) (hx : Nat32 w A x) (hy : Nat32 w B y) (hbx : ln x ≤ 35184372088832) {c : Int} (h : cmpN x y = c) :
    Calls Tryz.prog 109 #[.slice A (ln x) (ln x), .slice B (ln y) (ln y)] w (RetInt w c) := h ▸ cmp_any x y A B w hx hy hbx
theorem divn_to (x y : Nat) (A B : Option Addr) (w : World) (hx : Nat32 w A x) (hy : Nat32 w B y) (hbx : ln x ≤ 1099511627776) (hby : ln y ≤ 1099511627776) (hy0 : y ≠ 0) {q r : Nat} (h : x / y = q) (k : x % y = r) :
    Calls Tryz.prog 159 #[.slice A (ln x) (ln x), .slice B (ln y) (ln y)] w (RetNat2 w q r) := by subst h; subst k; exact div_any x y A B w hx hy hbx hby hy0
theorem ln_lit {n k : Nat} (h : n < 4294967296 ^ k) (hk : 4294967296 ^ k ≤ n * 4294967296) (h0 : 0 < k) : ln n = k := by
  have h1 := ln_le h
  have h2 := lt_ln n
  have h3 : ¬ ln n ≤ k - 1 := fun hl => by
    have h4 : 4294967296 ^ ln n ≤ 4294967296 ^ (k - 1) := Nat.pow_le_pow_right (by omega) hl
    have h5 : 4294967296 ^ k = 4294967296 ^ (k - 1) * 4294967296 := by rw [← Nat.pow_succ, show (k - 1).succ = k by omega]
    omega
  omega
set_option maxHeartbeats 4000000 in
theorem len_small (n : Nat) (A : Option Addr) (w : World) (hx : Nat32 w A n) (h0 : n ≠ 0) (h1 : n < 4294967296) {a : Int} (ha : ((Lib.bitLen n : Nat) : Int) = a) (ha1 : 0 ≤ a) (ha2 : a ≤ 32) :
    Calls Tryz.prog 183 #[.slice A (ln n) (ln n)] w fun e w' => e = .returned (.int .i64 a) ∧ w' = w := by
  have hl : ln n = 1 := ln_lit (by simpa using h1) (by omega) (by omega)
  obtain ⟨b, rfl, hb, hc⟩ := hx h0
  have g := hc 0 (by omega)
  rw [show wd n 0 = n by rw [wd_0, Nat.mod_eq_of_lt h1]] at g
  rw [hl]
  have HA := Lib.hid ha
  have H1 := Lib.hid h1
  clear hc hl h0 hx ha h1
  go_enter Tryz.func183, Tryz.ntmps183
  go_wp2_with fail
  refine (Tryz.bits_Len32 (n : Int) w (by omega) (by have := H1.out; omega)).mono ?_
  rintro e w1 ⟨rfl, rfl⟩
  rw [show ((n : Int).toNat) = n by omega, HA.out]
  go_wp2_with fail
  go_ret
  exact ⟨rfl, rfl⟩
set_option maxRecDepth 100000 in
set_option maxHeartbeats 4000000 in
theorem round_a (n d : Nat) (N D : Option Addr) (w : World) (hn : n = 1) (hd : d = 10) (hx : Nat32 w N n) (hy : Nat32 w D d) :
    Calls Tryz.prog 144 #[.agg #[.int .i64 53, .int .i64 (-1074), .int .i64 1023], .slice N (ln n) (ln n), .slice D (ln d) (ln d), .int .i64 2] w (fun e w' => e = .returned (.float .f64 4591870180066957722) ∧ Below w.heap.size w w') := by
  have EN := Lib.hid hn
  have ED := Lib.hid hd
  clear hn hd
  have z1 : ((ln n : Int) == 0) = false := by rw [EN.out, ln_lit (n := 1) (k := 1) (by omega) (by omega) (by omega)]; rfl
  have e1 : bits .or .u64 0 2576980377 = 2576980377 := by kernel_rfl
  have e2 : bits .or .u64 2576980377 7205756826812416 = 7205759403792793 := by kernel_rfl
  have e3 : min (56 : Int) 1074 = 56 := by decide
  have hcv : ∀ w, (convert 85 44 (.int .u64 7205759403792794)).run Tryz.prog w = .ok (.float .f64 4844071759199705498) w := fun w => by kernel_rfl
  go_enter Tryz.func144, Tryz.ntmps144
  go_wp2_with fail
  obtain ⟨W, hW⟩ : ∃ W : World, W = (w.alloc (.cells #[.int .i64 53, .int .i64 (-1074), .int .i64 1023] 126)) := ⟨_, rfl⟩
  have s0_0 : W.cell? ⟨w.heap.size, 0, none⟩ = some (.int .i64 53) := by subst hW; go_simp
  have s0_1 : W.cell? ⟨w.heap.size, 1, none⟩ = some (.int .i64 (-1074)) := by subst hW; go_simp
  have s0_2 : W.cell? ⟨w.heap.size, 2, none⟩ = some (.int .i64 1023) := by subst hW; go_simp
  have HW : Below w.heap.size w W := by subst hW; exact ((Below.refl w.heap.size w).alloc (Nat.le_refl _) _)
  have l0 : w.heap.size < W.heap.size := by subst hW; simp
  replace hx := hx.to HW
  replace hy := hy.to HW
  rw [← hW]
  clear hW
  replace HW := Lib.hid HW
  refine (len_small n N _ (by exact hx) (by rw [EN.out]; omega) (by rw [EN.out]; omega) (a := 1) (by rw [EN.out]; rfl) (by omega) (by omega)).mono ?_
  rintro e w9 ⟨rfl, rfl⟩
  go_wp2_with fail
  refine (len_small d D _ (by exact hy) (by rw [ED.out]; omega) (by rw [ED.out]; omega) (a := 4) (by rw [ED.out]; rfl) (by omega) (by omega)).mono ?_
  rintro e w9 ⟨rfl, rfl⟩
  go_wp2_with fail
  refine (shl_to n 3 N _ (by exact hx) (by rw [EN.out]; exact (Nat.le_trans (ln_le (n := 1) (k := 1) (by decide)) (by decide : 1 ≤ 35184372088832))) (by omega) (by decide) (v := 8) (by rw [EN.out])).mono ?_
  rintro e w1 ⟨B1, rfl, h1, hb1⟩
  replace s0_0 := keepc hb1 s0_0 l0
  replace s0_1 := keepc hb1 s0_1 l0
  replace s0_2 := keepc hb1 s0_2 l0
  replace l0 := Nat.lt_of_lt_of_le l0 hb1.size
  replace hx := hx.to hb1
  replace hy := hy.to hb1
  replace HW := Lib.hid (hstep HW hb1)
  clear hb1
  go_wp2_with fail
  refine (shl_to d 0 D _ (by exact hy) (by rw [ED.out]; exact (Nat.le_trans (ln_le (n := 10) (k := 1) (by decide)) (by decide : 1 ≤ 35184372088832))) (by omega) (by decide) (v := 10) (by rw [ED.out])).mono ?_
  rintro e w2 ⟨B2, rfl, h2, hb2⟩
  replace s0_0 := keepc hb2 s0_0 l0
  replace s0_1 := keepc hb2 s0_1 l0
  replace s0_2 := keepc hb2 s0_2 l0
  replace l0 := Nat.lt_of_lt_of_le l0 hb2.size
  replace hx := hx.to hb2
  replace hy := hy.to hb2
  replace h1 := h1.to hb2
  replace HW := Lib.hid (hstep HW hb2)
  clear hb2
  go_wp2_with fail
  refine (cmpn_to 8 10 B1 B2 _ (by exact h1) (by exact h2) (Nat.le_trans (ln_le (n := 8) (k := 1) (by decide)) (by decide : 1 ≤ 35184372088832)) (c := -1) (by decide)).mono ?_
  rintro e w3 ⟨rfl, hb3⟩
  replace s0_0 := keepc hb3 s0_0 l0
  replace s0_1 := keepc hb3 s0_1 l0
  replace s0_2 := keepc hb3 s0_2 l0
  replace l0 := Nat.lt_of_lt_of_le l0 hb3.size
  replace hx := hx.to hb3
  replace hy := hy.to hb3
  replace h1 := h1.to hb3
  replace h2 := h2.to hb3
  replace HW := Lib.hid (hstep HW hb3)
  clear hb3
  go_wp2_with fail
  clear h1 h2
  refine (shl_to d 0 D _ (by exact hy) (by rw [ED.out]; exact (Nat.le_trans (ln_le (n := 10) (k := 1) (by decide)) (by decide : 1 ≤ 35184372088832))) (by omega) (by decide) (v := 10) (by rw [ED.out])).mono ?_
  rintro e w4 ⟨B3, rfl, h3, hb4⟩
  replace s0_0 := keepc hb4 s0_0 l0
  replace s0_1 := keepc hb4 s0_1 l0
  replace s0_2 := keepc hb4 s0_2 l0
  replace l0 := Nat.lt_of_lt_of_le l0 hb4.size
  replace hx := hx.to hb4
  replace hy := hy.to hb4
  replace HW := Lib.hid (hstep HW hb4)
  clear hb4
  go_wp2_with fail
  refine (shl_to n 56 N _ (by exact hx) (by rw [EN.out]; exact (Nat.le_trans (ln_le (n := 1) (k := 1) (by decide)) (by decide : 1 ≤ 35184372088832))) (by omega) (by decide) (v := 72057594037927936) (by rw [EN.out])).mono ?_
  rintro e w5 ⟨B4, rfl, h4, hb5⟩
  replace s0_0 := keepc hb5 s0_0 l0
  replace s0_1 := keepc hb5 s0_1 l0
  replace s0_2 := keepc hb5 s0_2 l0
  replace l0 := Nat.lt_of_lt_of_le l0 hb5.size
  replace hx := hx.to hb5
  replace hy := hy.to hb5
  replace h3 := h3.to hb5
  replace HW := Lib.hid (hstep HW hb5)
  clear hb5
  go_wp2_with fail
  refine (divn_to 72057594037927936 10 B4 B3 _ (by exact h4) (by exact h3) (Nat.le_trans (ln_le (n := 72057594037927936) (k := 2) (by decide)) (by decide : 2 ≤ 1099511627776)) (Nat.le_trans (ln_le (n := 10) (k := 1) (by decide)) (by decide : 1 ≤ 1099511627776)) (by omega) (q := 7205759403792793) (r := 6) (by decide) (by decide)).mono ?_
  rintro e w6 ⟨Q, R, rfl, hq, hr, hb6⟩
  replace s0_0 := keepc hb6 s0_0 l0
  replace s0_1 := keepc hb6 s0_1 l0
  replace s0_2 := keepc hb6 s0_2 l0
  replace l0 := Nat.lt_of_lt_of_le l0 hb6.size
  replace hx := hx.to hb6
  replace hy := hy.to hb6
  replace h3 := h3.to hb6
  replace h4 := h4.to hb6
  replace HW := Lib.hid (hstep HW hb6)
  clear hb6
  obtain ⟨qb, hQ, hqb, hqc⟩ := hq (by omega)
  subst hQ
  rw [show ln 7205759403792793 = 2 from ln_lit (by decide) (by decide) (by omega)] at hqc ⊢
  have c0 := hqc 0 (by omega)
  have c1 := hqc 1 (by omega)
  rw [show wd 7205759403792793 0 = 2576980377 by decide] at c0
  rw [show wd 7205759403792793 1 = 1677721 by decide] at c1
  clear hqc hq hqb h4
  go_wp2_with fail
  refine wp_loop_rounds 3 ?_
  rw [rounds_succ]
  go_wp2_with fail
  rw [rounds_succ]
  go_wp2_with fail
  rw [rounds_succ]
  go_wp2_with fail
  refine (shl_to 6 1 R _ (by exact hr) (Nat.le_trans (ln_le (n := 6) (k := 1) (by decide)) (by decide : 1 ≤ 35184372088832)) (by omega) (by decide) (v := 12) (by decide)).mono ?_
  rintro e w7 ⟨B5, rfl, h5, hb7⟩
  replace s0_0 := keepc hb7 s0_0 l0
  replace s0_1 := keepc hb7 s0_1 l0
  replace s0_2 := keepc hb7 s0_2 l0
  replace l0 := Nat.lt_of_lt_of_le l0 hb7.size
  replace hx := hx.to hb7
  replace hy := hy.to hb7
  replace h3 := h3.to hb7
  replace hr := hr.to hb7
  replace HW := Lib.hid (hstep HW hb7)
  clear hb7
  go_wp2_with fail
  refine (cmpn_to 12 10 B5 B3 _ (by exact h5) (by exact h3) (Nat.le_trans (ln_le (n := 12) (k := 1) (by decide)) (by decide : 1 ≤ 35184372088832)) (c := 1) (by decide)).mono ?_
  rintro e w8 ⟨rfl, hb8⟩
  replace s0_0 := keepc hb8 s0_0 l0
  replace s0_1 := keepc hb8 s0_1 l0
  replace s0_2 := keepc hb8 s0_2 l0
  replace l0 := Nat.lt_of_lt_of_le l0 hb8.size
  replace hx := hx.to hb8
  replace hy := hy.to hb8
  replace h3 := h3.to hb8
  replace hr := hr.to hb8
  replace h5 := h5.to hb8
  replace HW := Lib.hid (hstep HW hb8)
  clear hb8
  go_wp2_with fail
  refine (ldexp_a _).mono ?_
  rintro e w9 ⟨rfl, rfl⟩
  go_wp2_with fail
  exact bodyPost_ret (v := .float .f64 4591870180066957722) (by simp [results, Tryz.results144, go_sem]) rfl ⟨rfl, HW.out⟩
set_option maxRecDepth 100000 in
set_option maxHeartbeats 4000000 in
theorem round_b (n d : Nat) (N D : Option Addr) (w : World) (hn : n = 7) (hd : d = 10) (hx : Nat32 w N n) (hy : Nat32 w D d) :
    Calls Tryz.prog 144 #[.agg #[.int .i64 53, .int .i64 (-1074), .int .i64 1023], .slice N (ln n) (ln n), .slice D (ln d) (ln d), .int .i64 2] w (fun e w' => e = .returned (.float .f64 4604480259023595110) ∧ Below w.heap.size w w') := by
  have EN := Lib.hid hn
  have ED := Lib.hid hd
  clear hn hd
  have z1 : ((ln n : Int) == 0) = false := by rw [EN.out, ln_lit (n := 7) (k := 1) (by omega) (by omega) (by omega)]; rfl
  have e1 : bits .or .u64 0 1717986918 = 1717986918 := by kernel_rfl
  have e2 : bits .or .u64 1717986918 6305037760331776 = 6305039478318694 := by kernel_rfl
  have e3 : min (53 : Int) 1074 = 53 := by decide
  have hcv : ∀ w, (convert 85 44 (.int .u64 6305039478318694)).run Tryz.prog w = .ok (.float .f64 4843171039274231398) w := fun w => by kernel_rfl
  go_enter Tryz.func144, Tryz.ntmps144
  go_wp2_with fail
  obtain ⟨W, hW⟩ : ∃ W : World, W = (w.alloc (.cells #[.int .i64 53, .int .i64 (-1074), .int .i64 1023] 126)) := ⟨_, rfl⟩
  have s0_0 : W.cell? ⟨w.heap.size, 0, none⟩ = some (.int .i64 53) := by subst hW; go_simp
  have s0_1 : W.cell? ⟨w.heap.size, 1, none⟩ = some (.int .i64 (-1074)) := by subst hW; go_simp
  have s0_2 : W.cell? ⟨w.heap.size, 2, none⟩ = some (.int .i64 1023) := by subst hW; go_simp
  have HW : Below w.heap.size w W := by subst hW; exact ((Below.refl w.heap.size w).alloc (Nat.le_refl _) _)
  have l0 : w.heap.size < W.heap.size := by subst hW; simp
  replace hx := hx.to HW
  replace hy := hy.to HW
  rw [← hW]
  clear hW
  replace HW := Lib.hid HW
  refine (len_small n N _ (by exact hx) (by rw [EN.out]; omega) (by rw [EN.out]; omega) (a := 3) (by rw [EN.out]; rfl) (by omega) (by omega)).mono ?_
  rintro e w9 ⟨rfl, rfl⟩
  go_wp2_with fail
  refine (len_small d D _ (by exact hy) (by rw [ED.out]; omega) (by rw [ED.out]; omega) (a := 4) (by rw [ED.out]; rfl) (by omega) (by omega)).mono ?_
  rintro e w9 ⟨rfl, rfl⟩
  go_wp2_with fail
  refine (shl_to n 1 N _ (by exact hx) (by rw [EN.out]; exact (Nat.le_trans (ln_le (n := 7) (k := 1) (by decide)) (by decide : 1 ≤ 35184372088832))) (by omega) (by decide) (v := 14) (by rw [EN.out])).mono ?_
  rintro e w1 ⟨B1, rfl, h1, hb1⟩
  replace s0_0 := keepc hb1 s0_0 l0
  replace s0_1 := keepc hb1 s0_1 l0
  replace s0_2 := keepc hb1 s0_2 l0
  replace l0 := Nat.lt_of_lt_of_le l0 hb1.size
  replace hx := hx.to hb1
  replace hy := hy.to hb1
  replace HW := Lib.hid (hstep HW hb1)
  clear hb1
  go_wp2_with fail
  refine (shl_to d 0 D _ (by exact hy) (by rw [ED.out]; exact (Nat.le_trans (ln_le (n := 10) (k := 1) (by decide)) (by decide : 1 ≤ 35184372088832))) (by omega) (by decide) (v := 10) (by rw [ED.out])).mono ?_
  rintro e w2 ⟨B2, rfl, h2, hb2⟩
  replace s0_0 := keepc hb2 s0_0 l0
  replace s0_1 := keepc hb2 s0_1 l0
  replace s0_2 := keepc hb2 s0_2 l0
  replace l0 := Nat.lt_of_lt_of_le l0 hb2.size
  replace hx := hx.to hb2
  replace hy := hy.to hb2
  replace h1 := h1.to hb2
  replace HW := Lib.hid (hstep HW hb2)
  clear hb2
  go_wp2_with fail
  refine (cmpn_to 14 10 B1 B2 _ (by exact h1) (by exact h2) (Nat.le_trans (ln_le (n := 14) (k := 1) (by decide)) (by decide : 1 ≤ 35184372088832)) (c := 1) (by decide)).mono ?_
  rintro e w3 ⟨rfl, hb3⟩
  replace s0_0 := keepc hb3 s0_0 l0
  replace s0_1 := keepc hb3 s0_1 l0
  replace s0_2 := keepc hb3 s0_2 l0
  replace l0 := Nat.lt_of_lt_of_le l0 hb3.size
  replace hx := hx.to hb3
  replace hy := hy.to hb3
  replace h1 := h1.to hb3
  replace h2 := h2.to hb3
  replace HW := Lib.hid (hstep HW hb3)
  clear hb3
  go_wp2_with fail
  clear h1 h2
  refine (shl_to d 0 D _ (by exact hy) (by rw [ED.out]; exact (Nat.le_trans (ln_le (n := 10) (k := 1) (by decide)) (by decide : 1 ≤ 35184372088832))) (by omega) (by decide) (v := 10) (by rw [ED.out])).mono ?_
  rintro e w4 ⟨B3, rfl, h3, hb4⟩
  replace s0_0 := keepc hb4 s0_0 l0
  replace s0_1 := keepc hb4 s0_1 l0
  replace s0_2 := keepc hb4 s0_2 l0
  replace l0 := Nat.lt_of_lt_of_le l0 hb4.size
  replace hx := hx.to hb4
  replace hy := hy.to hb4
  replace HW := Lib.hid (hstep HW hb4)
  clear hb4
  go_wp2_with fail
  refine (shl_to n 53 N _ (by exact hx) (by rw [EN.out]; exact (Nat.le_trans (ln_le (n := 7) (k := 1) (by decide)) (by decide : 1 ≤ 35184372088832))) (by omega) (by decide) (v := 63050394783186944) (by rw [EN.out])).mono ?_
  rintro e w5 ⟨B4, rfl, h4, hb5⟩
  replace s0_0 := keepc hb5 s0_0 l0
  replace s0_1 := keepc hb5 s0_1 l0
  replace s0_2 := keepc hb5 s0_2 l0
  replace l0 := Nat.lt_of_lt_of_le l0 hb5.size
  replace hx := hx.to hb5
  replace hy := hy.to hb5
  replace h3 := h3.to hb5
  replace HW := Lib.hid (hstep HW hb5)
  clear hb5
  go_wp2_with fail
  refine (divn_to 63050394783186944 10 B4 B3 _ (by exact h4) (by exact h3) (Nat.le_trans (ln_le (n := 63050394783186944) (k := 2) (by decide)) (by decide : 2 ≤ 1099511627776)) (Nat.le_trans (ln_le (n := 10) (k := 1) (by decide)) (by decide : 1 ≤ 1099511627776)) (by omega) (q := 6305039478318694) (r := 4) (by decide) (by decide)).mono ?_
  rintro e w6 ⟨Q, R, rfl, hq, hr, hb6⟩
  replace s0_0 := keepc hb6 s0_0 l0
  replace s0_1 := keepc hb6 s0_1 l0
  replace s0_2 := keepc hb6 s0_2 l0
  replace l0 := Nat.lt_of_lt_of_le l0 hb6.size
  replace hx := hx.to hb6
  replace hy := hy.to hb6
  replace h3 := h3.to hb6
  replace h4 := h4.to hb6
  replace HW := Lib.hid (hstep HW hb6)
  clear hb6
  obtain ⟨qb, hQ, hqb, hqc⟩ := hq (by omega)
  subst hQ
  rw [show ln 6305039478318694 = 2 from ln_lit (by decide) (by decide) (by omega)] at hqc ⊢
  have c0 := hqc 0 (by omega)
  have c1 := hqc 1 (by omega)
  rw [show wd 6305039478318694 0 = 1717986918 by decide] at c0
  rw [show wd 6305039478318694 1 = 1468006 by decide] at c1
  clear hqc hq hqb h4
  go_wp2_with fail
  refine wp_loop_rounds 3 ?_
  rw [rounds_succ]
  go_wp2_with fail
  rw [rounds_succ]
  go_wp2_with fail
  rw [rounds_succ]
  go_wp2_with fail
  refine (shl_to 4 1 R _ (by exact hr) (Nat.le_trans (ln_le (n := 4) (k := 1) (by decide)) (by decide : 1 ≤ 35184372088832)) (by omega) (by decide) (v := 8) (by decide)).mono ?_
  rintro e w7 ⟨B5, rfl, h5, hb7⟩
  replace s0_0 := keepc hb7 s0_0 l0
  replace s0_1 := keepc hb7 s0_1 l0
  replace s0_2 := keepc hb7 s0_2 l0
  replace l0 := Nat.lt_of_lt_of_le l0 hb7.size
  replace hx := hx.to hb7
  replace hy := hy.to hb7
  replace h3 := h3.to hb7
  replace hr := hr.to hb7
  replace HW := Lib.hid (hstep HW hb7)
  clear hb7
  go_wp2_with fail
  refine (cmpn_to 8 10 B5 B3 _ (by exact h5) (by exact h3) (Nat.le_trans (ln_le (n := 8) (k := 1) (by decide)) (by decide : 1 ≤ 35184372088832)) (c := -1) (by decide)).mono ?_
  rintro e w8 ⟨rfl, hb8⟩
  replace s0_0 := keepc hb8 s0_0 l0
  replace s0_1 := keepc hb8 s0_1 l0
  replace s0_2 := keepc hb8 s0_2 l0
  replace l0 := Nat.lt_of_lt_of_le l0 hb8.size
  replace hx := hx.to hb8
  replace hy := hy.to hb8
  replace h3 := h3.to hb8
  replace hr := hr.to hb8
  replace h5 := h5.to hb8
  replace HW := Lib.hid (hstep HW hb8)
  clear hb8
  go_wp2_with fail
  refine (ldexp_b _).mono ?_
  rintro e w9 ⟨rfl, rfl⟩
  go_wp2_with fail
  exact bodyPost_ret (v := .float .f64 4604480259023595110) (by simp [results, Tryz.results144, go_sem]) rfl ⟨rfl, HW.out⟩
end Go.Proofs.YtgpmlhpgdalheaaGreat

namespace Go.Proofs.YtgpmlhpgdalheaaGreat
open Go.RowKit Pl
set_option linter.unusedVariables false
set_option linter.unusedSimpArgs false
set_option maxHeartbeats 4000000 in
theorem double_any (w : World) :
    Calls Tryz.prog 87 #[] w (fun e w' => e = .returned (.agg #[.int .i64 53, .int .i64 (-1074), .int .i64 1023]) ∧ Below w.heap.size w w') := by
  go_enter Tryz.func87, Tryz.ntmps87
  go_wp2
  exact bodyPost_ret (v := .agg #[.int .i64 53, .int .i64 (-1074), .int .i64 1023]) (by simp [results, Tryz.results87, go_sem]) rfl ⟨rfl, (Below.refl _ _).alloc (Nat.le_refl _) _⟩
set_option maxHeartbeats 4000000 in
theorem signed_a (x : Int) (d : Nat) (A D : Option Addr) (w : World) (hv : x = 1) (hd : d = 10) (hx : Nat32 w A (ab x)) (hy : Nat32 w D d) :
    Calls Tryz.prog 88 #[.agg #[.int .i64 53, .int .i64 (-1074), .int .i64 1023], .agg #[.bool (sn (x)), .slice A (ln (ab (x))) (ln (ab (x)))], .slice D (ln d) (ln d), .int .i64 2] w (fun e w' => e = .returned (.float .f64 4591870180066957722) ∧ Below w.heap.size w w') := by
  have t1 : sn x = false := by rw [hv]; decide
  have E1 : Hid (ab x = 1) := Lib.hid (by rw [hv]; decide)
  have E2 := Lib.hid hd
  clear hv hd
  go_enter Tryz.func88, Tryz.ntmps88
  go_wp2_with fail
  obtain ⟨W, hW⟩ : ∃ W : World, W = ((w.alloc (.cells #[.int .i64 53, .int .i64 (-1074), .int .i64 1023] 126)).alloc (.cells #[.bool false, .slice A (ln (ab x)) (ln (ab x))] 28)) := ⟨_, rfl⟩
  have s0_0 : W.cell? ⟨w.heap.size, 0, none⟩ = some (.int .i64 53) := by subst hW; go_simp
  have s0_1 : W.cell? ⟨w.heap.size, 1, none⟩ = some (.int .i64 (-1074)) := by subst hW; go_simp
  have s0_2 : W.cell? ⟨w.heap.size, 2, none⟩ = some (.int .i64 1023) := by subst hW; go_simp
  have s1_0 : W.cell? ⟨w.heap.size + 1, 0, none⟩ = some (.bool false) := by subst hW; go_simp
  have s1_1 : W.cell? ⟨w.heap.size + 1, 1, none⟩ = some (.slice A (ln (ab x)) (ln (ab x))) := by subst hW; go_simp
  have HW : Below w.heap.size w W := by subst hW; exact (((Below.refl w.heap.size w).alloc (Nat.le_refl _) _).alloc (by simp) _)
  have l0 : w.heap.size < W.heap.size := by subst hW; simp <;> omega
  have l1 : w.heap.size + 1 < W.heap.size := by subst hW; simp
  replace hx := hx.to HW
  replace hy := hy.to HW
  rw [← hW]
  clear hW
  replace HW := Lib.hid HW
  refine (round_a (ab x) d A D _ E1.out E2.out (by exact hx) (by exact hy)).mono ?_
  rintro e w1 ⟨rfl, hb1⟩
  replace HW := Lib.hid (hstep HW hb1)
  go_wp2_with fail
  exact bodyPost_ret (v := .float .f64 4591870180066957722) (by simp [results, Tryz.results88, go_sem]) rfl ⟨rfl, HW.out⟩
set_option maxHeartbeats 4000000 in
theorem signed_b (x : Int) (d : Nat) (A D : Option Addr) (w : World) (hv : x = 7) (hd : d = 10) (hx : Nat32 w A (ab x)) (hy : Nat32 w D d) :
    Calls Tryz.prog 88 #[.agg #[.int .i64 53, .int .i64 (-1074), .int .i64 1023], .agg #[.bool (sn (x)), .slice A (ln (ab (x))) (ln (ab (x)))], .slice D (ln d) (ln d), .int .i64 2] w (fun e w' => e = .returned (.float .f64 4604480259023595110) ∧ Below w.heap.size w w') := by
  have t1 : sn x = false := by rw [hv]; decide
  have E1 : Hid (ab x = 7) := Lib.hid (by rw [hv]; decide)
  have E2 := Lib.hid hd
  clear hv hd
  go_enter Tryz.func88, Tryz.ntmps88
  go_wp2_with fail
  obtain ⟨W, hW⟩ : ∃ W : World, W = ((w.alloc (.cells #[.int .i64 53, .int .i64 (-1074), .int .i64 1023] 126)).alloc (.cells #[.bool false, .slice A (ln (ab x)) (ln (ab x))] 28)) := ⟨_, rfl⟩
  have s0_0 : W.cell? ⟨w.heap.size, 0, none⟩ = some (.int .i64 53) := by subst hW; go_simp
  have s0_1 : W.cell? ⟨w.heap.size, 1, none⟩ = some (.int .i64 (-1074)) := by subst hW; go_simp
  have s0_2 : W.cell? ⟨w.heap.size, 2, none⟩ = some (.int .i64 1023) := by subst hW; go_simp
  have s1_0 : W.cell? ⟨w.heap.size + 1, 0, none⟩ = some (.bool false) := by subst hW; go_simp
  have s1_1 : W.cell? ⟨w.heap.size + 1, 1, none⟩ = some (.slice A (ln (ab x)) (ln (ab x))) := by subst hW; go_simp
  have HW : Below w.heap.size w W := by subst hW; exact (((Below.refl w.heap.size w).alloc (Nat.le_refl _) _).alloc (by simp) _)
  have l0 : w.heap.size < W.heap.size := by subst hW; simp <;> omega
  have l1 : w.heap.size + 1 < W.heap.size := by subst hW; simp
  replace hx := hx.to HW
  replace hy := hy.to HW
  rw [← hW]
  clear hW
  replace HW := Lib.hid HW
  refine (round_b (ab x) d A D _ E1.out E2.out (by exact hx) (by exact hy)).mono ?_
  rintro e w1 ⟨rfl, hb1⟩
  replace HW := Lib.hid (hstep HW hb1)
  go_wp2_with fail
  exact bodyPost_ret (v := .float .f64 4604480259023595110) (by simp [results, Tryz.results88, go_sem]) rfl ⟨rfl, HW.out⟩
set_option maxHeartbeats 4000000 in
theorem near_a (x : Cx) (A1 A2 A3 : Option Addr) (w : World) (h1 : na x = 1) (h2 : nb x = 7) (h3 : nd x = 10) (hx : Num3 w A1 A2 A3 x) :
    Calls Tryz.prog 13 #[.agg #[.bool (sn (na x)), .slice A1 (ln (ab (na x))) (ln (ab (na x))), .bool (sn (nb x)), .slice A2 (ln (ab (nb x))) (ln (ab (nb x))), .slice A3 (ln (un x)) (ln (un x))]] w (fun e w' => e = .returned (.complex .f64 4591870180066957722 4604480259023595110) ∧ Below w.heap.size w w') := by
  have E1 := Lib.hid h1
  have E2 := Lib.hid h2
  have E3 := Lib.hid h3
  clear h1 h2 h3
  go_enter Tryz.func13, Tryz.ntmps13
  go_wp2_with fail
  obtain ⟨W, hW⟩ : ∃ W : World, W = (w.alloc (.cells #[.bool (sn (na x)), .slice A1 (ln (ab (na x))) (ln (ab (na x))), .bool (sn (nb x)), .slice A2 (ln (ab (nb x))) (ln (ab (nb x))), .slice A3 (ln (un x)) (ln (un x))] 30)) := ⟨_, rfl⟩
  have s0_0 : W.cell? ⟨w.heap.size, 0, none⟩ = some (.bool (sn (na x))) := by subst hW; go_simp
  have s0_1 : W.cell? ⟨w.heap.size, 1, none⟩ = some (.slice A1 (ln (ab (na x))) (ln (ab (na x)))) := by subst hW; go_simp
  have s0_2 : W.cell? ⟨w.heap.size, 2, none⟩ = some (.bool (sn (nb x))) := by subst hW; go_simp
  have s0_3 : W.cell? ⟨w.heap.size, 3, none⟩ = some (.slice A2 (ln (ab (nb x))) (ln (ab (nb x)))) := by subst hW; go_simp
  have s0_4 : W.cell? ⟨w.heap.size, 4, none⟩ = some (.slice A3 (ln (un x)) (ln (un x))) := by subst hW; go_simp
  have HW : Below w.heap.size w W := by subst hW; exact ((Below.refl w.heap.size w).alloc (Nat.le_refl _) _)
  have l0 : w.heap.size < W.heap.size := by subst hW; simp
  replace hx := hx.to HW
  rw [← hW]
  clear hW
  replace HW := Lib.hid HW
  go_region_held3 (fun w' => w'.cell? ⟨w.heap.size, 0, none⟩ = some (.bool (sn (na x))) ∧ w'.cell? ⟨w.heap.size, 1, none⟩ = some (.slice A1 (ln (ab (na x))) (ln (ab (na x)))) ∧ w'.cell? ⟨w.heap.size, 2, none⟩ = some (.bool (sn (nb x))) ∧ w'.cell? ⟨w.heap.size, 3, none⟩ = some (.slice A2 (ln (ab (nb x))) (ln (ab (nb x)))) ∧ w'.cell? ⟨w.heap.size, 4, none⟩ = some (.slice A3 (ln (un x)) (ln (un x)))) (first | with_reducible exact ⟨s0_0, s0_1, s0_2, s0_3, s0_4⟩ | with_reducible exact ⟨s0_0, s0_1, s0_2, s0_3, s0_4⟩ | exact ⟨s0_0, s0_1, s0_2, s0_3, s0_4⟩) (first
    | (have _ := m5; go_at_call 88; refine (signed_b (nb x) (nd x) A2 D2 _ E2.out E3.out (by exact hx.2.1) (by exact hD2)).mono ?_; rintro e w6 ⟨rfl, hb6⟩; replace s0_0 := keepc hb6 s0_0 l0; replace s0_1 := keepc hb6 s0_1 l0; replace s0_2 := keepc hb6 s0_2 l0; replace s0_3 := keepc hb6 s0_3 l0; replace s0_4 := keepc hb6 s0_4 l0; replace l0 := Nat.lt_of_lt_of_le l0 hb6.size; replace hx := hx.to hb6; replace hD := hD.to hb6; replace hD2 := hD2.to hb6; replace HW := Lib.hid (hstep HW hb6); clear hb6; have m6 : True := trivial)
    | (have _ := m4; go_at_call 89; refine (den_any x A1 A2 A3 _ (by exact hx)).mono ?_; rintro e w5 ⟨D2, rfl, hD2, hb5⟩; replace s0_0 := keepc hb5 s0_0 l0; replace s0_1 := keepc hb5 s0_1 l0; replace s0_2 := keepc hb5 s0_2 l0; replace s0_3 := keepc hb5 s0_3 l0; replace s0_4 := keepc hb5 s0_4 l0; replace l0 := Nat.lt_of_lt_of_le l0 hb5.size; replace hx := hx.to hb5; replace hD := hD.to hb5; replace HW := Lib.hid (hstep HW hb5); clear hb5; have m5 : True := trivial)
    | (have _ := m3; go_at_call 87; refine (double_any _).mono ?_; rintro e w4 ⟨rfl, hb4⟩; replace s0_0 := keepc hb4 s0_0 l0; replace s0_1 := keepc hb4 s0_1 l0; replace s0_2 := keepc hb4 s0_2 l0; replace s0_3 := keepc hb4 s0_3 l0; replace s0_4 := keepc hb4 s0_4 l0; replace l0 := Nat.lt_of_lt_of_le l0 hb4.size; replace hx := hx.to hb4; replace hD := hD.to hb4; replace HW := Lib.hid (hstep HW hb4); clear hb4; have m4 : True := trivial)
    | (have _ := m2; go_at_call 88; refine (signed_a (na x) (nd x) A1 D _ E1.out E3.out (by exact hx.1) (by exact hD)).mono ?_; rintro e w3 ⟨rfl, hb3⟩; replace s0_0 := keepc hb3 s0_0 l0; replace s0_1 := keepc hb3 s0_1 l0; replace s0_2 := keepc hb3 s0_2 l0; replace s0_3 := keepc hb3 s0_3 l0; replace s0_4 := keepc hb3 s0_4 l0; replace l0 := Nat.lt_of_lt_of_le l0 hb3.size; replace hx := hx.to hb3; replace hD := hD.to hb3; replace HW := Lib.hid (hstep HW hb3); clear hb3; have m3 : True := trivial)
    | (have _ := m1; go_at_call 89; refine (den_any x A1 A2 A3 _ (by exact hx)).mono ?_; rintro e w2 ⟨D, rfl, hD, hb2⟩; replace s0_0 := keepc hb2 s0_0 l0; replace s0_1 := keepc hb2 s0_1 l0; replace s0_2 := keepc hb2 s0_2 l0; replace s0_3 := keepc hb2 s0_3 l0; replace s0_4 := keepc hb2 s0_4 l0; replace l0 := Nat.lt_of_lt_of_le l0 hb2.size; replace hx := hx.to hb2; replace HW := Lib.hid (hstep HW hb2); clear hb2; have m2 : True := trivial)
    | (go_at_call 87; refine (double_any _).mono ?_; rintro e w1 ⟨rfl, hb1⟩; have hb1 := undrew hb1; replace s0_0 := keepc hb1 s0_0 l0; replace s0_1 := keepc hb1 s0_1 l0; replace s0_2 := keepc hb1 s0_2 l0; replace s0_3 := keepc hb1 s0_3 l0; replace s0_4 := keepc hb1 s0_4 l0; replace l0 := Nat.lt_of_lt_of_le l0 hb1.size; replace hx := hx.to hb1; replace HW := Lib.hid (hstep HW hb1); clear hb1; have m1 : True := trivial))
  go_wp2_with fail
  exact bodyPost_ret (v := .complex .f64 4591870180066957722 4604480259023595110) (by simp [results, Tryz.results13, go_sem]) rfl ⟨rfl, HW.out⟩
end Go.Proofs.YtgpmlhpgdalheaaGreat

namespace Go.Proofs.YtgpmlhpgdalheaaGreat
open Go.RowKit Pl
set_option linter.unusedVariables false
set_option linter.unusedSimpArgs false
theorem of_to (a b d : Int) (w : World) (ha : -9223372036854775808 ≤ a ∧ a ≤ 9223372036854775807) (hb : -9223372036854775808 ≤ b ∧ b ≤ 9223372036854775807) (hd : -9223372036854775808 ≤ d ∧ d ≤ 9223372036854775807) {q : Cx} (h : ofv a b d = q) :
    Calls Tryz.prog 58 #[.agg #[.int .i64 a, .int .i64 b, .int .i64 d]] w (RetNum w q) := h ▸ of_any a b d w ha hb hd
theorem int_to (n : Int) (w : World) (h1 : -9223372036854775808 ≤ n) (h2 : n ≤ 9223372036854775807) {q : Cx} (h : Cx.ofInt n = q) : Calls Tryz.prog 59 #[.int .i64 n] w (RetNum w q) := h ▸ int_any n w h1 h2
theorem text_to (x : Cx) (A1 A2 A3 : Option Addr) (w : World) (hx : Num3 w A1 A2 A3 x) (hs : sz 274877906944 x) {s : ByteArray} (h : textT x = s) :
    Calls Tryz.prog 95 #[.agg #[.bool (sn (na x)), .slice A1 (ln (ab (na x))) (ln (ab (na x))), .bool (sn (nb x)), .slice A2 (ln (ab (nb x))) (ln (ab (nb x))), .slice A3 (ln (un x)) (ln (un x))]] w (RetStr w s) := h ▸ text_any x A1 A2 A3 w hx hs
theorem norm_to (x : Cx) (A1 A2 A3 : Option Addr) (w : World) (hx : Num3 w A1 A2 A3 x) (hs : sz 137438953472 x) {q : Cx} (h : x.norm = q) :
    Calls Tryz.prog 38 #[.agg #[.bool (sn (na x)), .slice A1 (ln (ab (na x))) (ln (ab (na x))), .bool (sn (nb x)), .slice A2 (ln (ab (nb x))) (ln (ab (nb x))), .slice A3 (ln (un x)) (ln (un x))]] w (RetNum w q) := h ▸ norm_num x A1 A2 A3 w hx hs
theorem divx_to (x y : Cx) (A1 A2 A3 B1 B2 B3 : Option Addr) (w : World) (hx : Num3 w A1 A2 A3 x) (hy : Num3 w B1 B2 B3 y) (hsx : sz 137438953472 x) (hsy : sz 137438953472 y) (h0 : y ≠ Cx.zero) {q : Cx} (h : x.div y = q) :
    Calls Tryz.prog 32 #[.agg #[.bool (sn (na x)), .slice A1 (ln (ab (na x))) (ln (ab (na x))), .bool (sn (nb x)), .slice A2 (ln (ab (nb x))) (ln (ab (nb x))), .slice A3 (ln (un x)) (ln (un x))], .agg #[.bool (sn (na y)), .slice B1 (ln (ab (na y))) (ln (ab (na y))), .bool (sn (nb y)), .slice B2 (ln (ab (nb y))) (ln (ab (nb y))), .slice B3 (ln (un y)) (ln (un y))]] w (RetNumE w 0 q) := h ▸ div_num0 x y A1 A2 A3 B1 B2 B3 w hx hy hsx hsy h0
theorem det_to (w : World) (b g0 g1 k0 k1 c : Nat) (q00 q01 q10 q11 : Cx) (A1 A2 A3 B1 B2 B3 C1 C2 C3 E1 E2 E3 : Option Addr) (m0 : w.cell? ⟨b, 0, none⟩ = some (.slice (some ⟨g0, 0, none⟩) 2 k0)) (m1 : w.cell? ⟨b, 1, none⟩ = some (.slice (some ⟨g1, 0, none⟩) 2 k1)) (hb : b < w.heap.size) (V00 : VarAt w g0 q00 A1 A2 A3) (V01 : At5 w g0 q01 B1 B2 B3) (V10 : VarAt w g1 q10 C1 C2 C3) (V11 : At5 w g1 q11 E1 E2 E3) (z00 : sz 2 q00) (z01 : sz 2 q01) (z10 : sz 2 q10) (z11 : sz 2 q11) (h00 : q00 ≠ Cx.zero) (h11 : (q11.sub ((q10.div q00).mul q01)) ≠ Cx.zero) {q : Cx} (h : q00.mul (q11.sub ((q10.div q00).mul q01)) = q) :
    Calls Tryz.prog 94 #[.slice (some ⟨b, 0, none⟩) 2 c] w (RetNumE w 0 q) := h ▸ det2 w b g0 g1 k0 k1 c q00 q01 q10 q11 A1 A2 A3 B1 B2 B3 C1 C2 C3 E1 E2 E3 m0 m1 hb V00 V01 V10 V11 z00 z01 z10 z11 h00 h11
set_option maxRecDepth 100000 in
set_option maxHeartbeats 4000000 in
theorem awake0 (w : World) (xa xb xq xi x1 x2 x3 xd xn : Cx) (ha : ofv 1 2 0 = xa) (hb : ofv 3 (-1) 0 = xb) (hb0 : xb ≠ Cx.zero) (hq : xa.div xb = xq) (hi : ofv 0 1 0 = xi) (h1 : Cx.ofInt 1 = x1) (h2 : Cx.ofInt 2 = x2) (h3 : Cx.ofInt 3 = x3) (h10 : x1 ≠ Cx.zero) (hu : x3.sub ((x2.div x1).mul xi) ≠ Cx.zero) (hd : x1.mul (x3.sub ((x2.div x1).mul xi)) = xd) (hn : xq.norm = xn) (tq : textT xq = ⟨#[49, 47, 49, 48, 43, 55, 47, 49, 48, 105]⟩) (tn : textT xn = ⟨#[49, 47, 50]⟩) (td : textT xd = ⟨#[51, 45, 50, 105]⟩) (n1 : na xq = 1) (n2 : nb xq = 7) (n3 : nd xq = 10) (za : sz 2 xa) (zb : sz 2 xb) (zq : sz 100 xq) (zi : sz 2 xi) (z1 : sz 2 x1) (z2 : sz 2 x2) (z3 : sz 2 x3) (zd : sz 100 xd) (zn : sz 100 xn) :
    Calls Tryz.prog 23 #[] w (RetBool w true) := by
  have K : Hid (ofv 1 2 0 = xa ∧ ofv 3 (-1) 0 = xb ∧ xa.div xb = xq ∧ ofv 0 1 0 = xi ∧ Cx.ofInt 1 = x1 ∧ Cx.ofInt 2 = x2 ∧ Cx.ofInt 3 = x3 ∧ x1.mul (x3.sub ((x2.div x1).mul xi)) = xd ∧ xq.norm = xn ∧ textT xq = ⟨#[49, 47, 49, 48, 43, 55, 47, 49, 48, 105]⟩ ∧ textT xn = ⟨#[49, 47, 50]⟩ ∧ textT xd = ⟨#[51, 45, 50, 105]⟩) := Lib.hid ⟨ha, hb, hq, hi, h1, h2, h3, hd, hn, tq, tn, td⟩
  have N : Hid (na xq = 1 ∧ nb xq = 7 ∧ nd xq = 10) := Lib.hid ⟨n1, n2, n3⟩
  have Z : Hid (xb ≠ Cx.zero ∧ x1 ≠ Cx.zero ∧ x3.sub ((x2.div x1).mul xi) ≠ Cx.zero) := Lib.hid ⟨hb0, h10, hu⟩
  clear ha hb hb0 hq hi h1 h2 h3 h10 hu hd hn tq tn td n1 n2 n3
  have HW : Hid (Below w.heap.size w w) := Lib.hid (Below.refl _ _)
  have s1 : ∀ w, (binOp .eql 9 (.string ⟨#[49, 47, 49, 48, 43, 55, 47, 49, 48, 105]⟩) (.string ⟨#[49, 47, 49, 48, 43, 55, 47, 49, 48, 105]⟩)).run Tryz.prog w = .ok (.bool true) w := fun w => by kernel_rfl
  have s2 : ∀ w, (binOp .eql 9 (.string ⟨#[49, 47, 50]⟩) (.string ⟨#[49, 47, 50]⟩)).run Tryz.prog w = .ok (.bool true) w := fun w => by kernel_rfl
  have s3 : ∀ w, (binOp .eql 9 (.string ⟨#[51, 45, 50, 105]⟩) (.string ⟨#[51, 45, 50, 105]⟩)).run Tryz.prog w = .ok (.bool true) w := fun w => by kernel_rfl
  have fb := f64bits
  have gb : ∀ w : World, (callFunc 92 #[.float .f64 4591870180066957722]).run Tryz.prog w = .ok (.value (.int .u64 4591870180066957722)) w := fun w => f64bits 4591870180066957722 w
  go_enter Tryz.func23, Tryz.ntmps23
  go_wp2_with fail
  refine (of_to 1 2 0 _ (by omega) (by omega) (by omega) K.out.1).mono ?_
  rintro e w1 ⟨A1, A2, A3, rfl, ya, hb1⟩
  replace HW := Lib.hid (hstep HW hb1); clear hb1
  go_wp2_with fail
  refine (of_to 3 (-1) 0 _ (by omega) (by omega) (by omega) K.out.2.1).mono ?_
  rintro e w2 ⟨B1, B2, B3, rfl, yb, hb2⟩
  replace ya := ya.to hb2; replace HW := Lib.hid (hstep HW hb2); clear hb2
  go_wp2_with fail
  refine (divx_to xa xb A1 A2 A3 B1 B2 B3 _ (by exact ya) (by exact yb) (za.mono (by decide)) (zb.mono (by decide)) Z.out.1 K.out.2.2.1).mono ?_
  rintro e w3 ⟨Q1, Q2, Q3, rfl, yq, hb3⟩
  replace ya := ya.to hb3; replace yb := yb.to hb3; replace HW := Lib.hid (hstep HW hb3); clear hb3
  go_wp2_with fail
  clear ya yb
  obtain ⟨X1, hX1⟩ : ∃ X : World, X = w3.alloc (.cells #[.bool (sn (na xq)), .slice Q1 (ln (ab (na xq))) (ln (ab (na xq))), .bool (sn (nb xq)), .slice Q2 (ln (ab (nb xq))) (ln (ab (nb xq))), .slice Q3 (ln (un xq)) (ln (un xq))] 30) := ⟨_, rfl⟩
  rw [← hX1]
  have bX1 : Below w3.heap.size w3 X1 := by rw [hX1]; exact (Below.refl _ _).alloc (Nat.le_refl _) _
  have Vq : VarAt X1 w3.heap.size xq Q1 Q2 Q3 := ⟨by rw [hX1]; simp, ⟨by subst hX1; go_simp, by subst hX1; go_simp, by subst hX1; go_simp, by subst hX1; go_simp, by subst hX1; go_simp⟩, yq.to bX1⟩
  clear hX1
  replace yq := yq.to bX1; replace HW := Lib.hid (hstep HW bX1); clear bX1
  clear yq
  generalize w3.heap.size = gq at *
  refine (int_to 1 _ (by omega) (by omega) K.out.2.2.2.2.1).mono ?_
  rintro e w4 ⟨C1, C2, C3, rfl, y1, hb4⟩
  replace Vq := Vq.to hb4; replace HW := Lib.hid (hstep HW hb4); clear hb4
  go_wp2_with fail
  refine (of_to 0 1 0 _ (by omega) (by omega) (by omega) K.out.2.2.2.1).mono ?_
  rintro e w5 ⟨I1, I2, I3, rfl, yi, hb5⟩
  replace Vq := Vq.to hb5; replace y1 := y1.to hb5; replace HW := Lib.hid (hstep HW hb5); clear hb5
  go_wp2_with fail
  obtain ⟨X2, hX2⟩ : ∃ X : World, X = w5.alloc (.cells #[.bool (sn (na x1)), .slice C1 (ln (ab (na x1))) (ln (ab (na x1))), .bool (sn (nb x1)), .slice C2 (ln (ab (nb x1))) (ln (ab (nb x1))), .slice C3 (ln (un x1)) (ln (un x1)), .bool (sn (na xi)), .slice I1 (ln (ab (na xi))) (ln (ab (na xi))), .bool (sn (nb xi)), .slice I2 (ln (ab (nb xi))) (ln (ab (nb xi))), .slice I3 (ln (un xi)) (ln (un xi))] 30) := ⟨_, rfl⟩
  rw [← hX2]
  have bX2 : Below w5.heap.size w5 X2 := by rw [hX2]; exact (Below.refl _ _).alloc (Nat.le_refl _) _
  have R00 : VarAt X2 w5.heap.size x1 C1 C2 C3 := ⟨by rw [hX2]; simp, ⟨by subst hX2; go_simp, by subst hX2; go_simp, by subst hX2; go_simp, by subst hX2; go_simp, by subst hX2; go_simp⟩, y1.to bX2⟩
  have R01 : At5 X2 w5.heap.size xi I1 I2 I3 := ⟨by rw [hX2]; simp, ⟨by subst hX2; go_simp, by subst hX2; go_simp, by subst hX2; go_simp, by subst hX2; go_simp, by subst hX2; go_simp⟩, yi.to bX2⟩
  clear hX2
  replace Vq := Vq.to bX2; replace y1 := y1.to bX2; replace yi := yi.to bX2; replace HW := Lib.hid (hstep HW bX2); clear bX2
  clear y1 yi
  generalize w5.heap.size = g0 at *
  refine (int_to 2 _ (by omega) (by omega) K.out.2.2.2.2.2.1).mono ?_
  rintro e w6 ⟨E1, E2, E3, rfl, y2, hb6⟩
  replace Vq := Vq.to hb6; replace R00 := R00.to hb6; replace R01 := R01.to hb6; replace HW := Lib.hid (hstep HW hb6); clear hb6
  go_wp2_with fail
  refine (int_to 3 _ (by omega) (by omega) K.out.2.2.2.2.2.2.1).mono ?_
  rintro e w7 ⟨F1, F2, F3, rfl, y3, hb7⟩
  replace Vq := Vq.to hb7; replace R00 := R00.to hb7; replace R01 := R01.to hb7; replace y2 := y2.to hb7; replace HW := Lib.hid (hstep HW hb7); clear hb7
  go_wp2_with fail
  obtain ⟨X3, hX3⟩ : ∃ X : World, X = w7.alloc (.cells #[.bool (sn (na x2)), .slice E1 (ln (ab (na x2))) (ln (ab (na x2))), .bool (sn (nb x2)), .slice E2 (ln (ab (nb x2))) (ln (ab (nb x2))), .slice E3 (ln (un x2)) (ln (un x2)), .bool (sn (na x3)), .slice F1 (ln (ab (na x3))) (ln (ab (na x3))), .bool (sn (nb x3)), .slice F2 (ln (ab (nb x3))) (ln (ab (nb x3))), .slice F3 (ln (un x3)) (ln (un x3))] 30) := ⟨_, rfl⟩
  rw [← hX3]
  have bX3 : Below w7.heap.size w7 X3 := by rw [hX3]; exact (Below.refl _ _).alloc (Nat.le_refl _) _
  have R10 : VarAt X3 w7.heap.size x2 E1 E2 E3 := ⟨by rw [hX3]; simp, ⟨by subst hX3; go_simp, by subst hX3; go_simp, by subst hX3; go_simp, by subst hX3; go_simp, by subst hX3; go_simp⟩, y2.to bX3⟩
  have R11 : At5 X3 w7.heap.size x3 F1 F2 F3 := ⟨by rw [hX3]; simp, ⟨by subst hX3; go_simp, by subst hX3; go_simp, by subst hX3; go_simp, by subst hX3; go_simp, by subst hX3; go_simp⟩, y3.to bX3⟩
  have hz3 : X3.heap.size = w7.heap.size + 1 := by rw [hX3]; simp
  clear hX3
  replace Vq := Vq.to bX3; replace R00 := R00.to bX3; replace R01 := R01.to bX3; replace y2 := y2.to bX3; replace y3 := y3.to bX3; replace HW := Lib.hid (hstep HW bX3); clear bX3
  clear y2 y3
  obtain ⟨X4, hX4⟩ : ∃ X : World, X = X3.alloc (.cells #[.slice (some ⟨g0, 0, none⟩) 2 2, .slice (some ⟨w7.heap.size, 0, none⟩) 2 2] 54) := ⟨_, rfl⟩
  rw [← hX4]
  have bX4 : Below X3.heap.size X3 X4 := by rw [hX4]; exact (Below.refl _ _).alloc (Nat.le_refl _) _
  have m0 : X4.cell? ⟨w7.heap.size + 1, 0, none⟩ = some (.slice (some ⟨g0, 0, none⟩) 2 2) := by rw [← hz3, hX4]; go_simp
  have m1 : X4.cell? ⟨w7.heap.size + 1, 1, none⟩ = some (.slice (some ⟨w7.heap.size, 0, none⟩) 2 2) := by rw [← hz3, hX4]; go_simp
  have hb4 : w7.heap.size + 1 < X4.heap.size := by rw [hX4, ← hz3]; simp
  clear hX4
  replace Vq := Vq.to bX4; replace R00 := R00.to bX4; replace R01 := R01.to bX4; replace R10 := R10.to bX4; replace R11 := R11.to bX4; replace HW := Lib.hid (hstep HW bX4); clear bX4
  refine (det_to _ (w7.heap.size + 1) g0 w7.heap.size 2 2 2 x1 xi x2 x3 C1 C2 C3 I1 I2 I3 E1 E2 E3 F1 F2 F3 m0 m1 hb4 R00 R01 R10 R11 z1 zi z2 z3 Z.out.2.1 Z.out.2.2 K.out.2.2.2.2.2.2.2.1).mono ?_
  rintro e w8 ⟨D1, D2, D3, rfl, yd, hb8⟩
  replace Vq := Vq.to hb8; replace R00 := R00.to hb8; replace R01 := R01.to hb8; replace R10 := R10.to hb8; replace R11 := R11.to hb8; replace HW := Lib.hid (hstep HW hb8); clear hb8
  clear R00 R01 R10 R11 m0 m1 hb4 hz3
  go_upto_region 4 with fail
  obtain ⟨X5, hX5⟩ : ∃ X : World, X = w8.alloc (.cells #[.bool (sn (na xd)), .slice D1 (ln (ab (na xd))) (ln (ab (na xd))), .bool (sn (nb xd)), .slice D2 (ln (ab (nb xd))) (ln (ab (nb xd))), .slice D3 (ln (un xd)) (ln (un xd))] 30) := ⟨_, rfl⟩
  rw [← hX5]
  have bX5 : Below w8.heap.size w8 X5 := by rw [hX5]; exact (Below.refl _ _).alloc (Nat.le_refl _) _
  have Vd : VarAt X5 w8.heap.size xd D1 D2 D3 := ⟨by rw [hX5]; simp, ⟨by subst hX5; go_simp, by subst hX5; go_simp, by subst hX5; go_simp, by subst hX5; go_simp, by subst hX5; go_simp⟩, yd.to bX5⟩
  clear hX5
  replace Vq := Vq.to bX5; replace yd := yd.to bX5; replace HW := Lib.hid (hstep HW bX5); clear bX5
  clear yd
  generalize w8.heap.size = gd at *
  obtain ⟨tq0, tq1, tq2, tq3, tq4⟩ := Vq.2.1
  obtain ⟨td0, td1, td2, td3, td4⟩ := Vd.2.1
  go_wp2_with fail
  refine (text_to xq Q1 Q2 Q3 _ (by exact Vq.2.2) (zq.mono (by decide)) K.out.2.2.2.2.2.2.2.2.2.1).mono ?_
  rintro e w9 ⟨rfl, hb9⟩
  replace Vq := Vq.to hb9; replace Vd := Vd.to hb9; replace HW := Lib.hid (hstep HW hb9); clear hb9
  clear tq0 tq1 tq2 tq3 tq4 td0 td1 td2 td3 td4
  obtain ⟨tq0, tq1, tq2, tq3, tq4⟩ := Vq.2.1
  obtain ⟨td0, td1, td2, td3, td4⟩ := Vd.2.1
  go_wp2_with fail
  refine (norm_to xq Q1 Q2 Q3 _ (by exact Vq.2.2) (zq.mono (by decide)) K.out.2.2.2.2.2.2.2.2.1).mono ?_
  rintro e w10 ⟨N1, N2, N3, rfl, yn, hb10⟩
  replace Vq := Vq.to hb10; replace Vd := Vd.to hb10; replace HW := Lib.hid (hstep HW hb10); clear hb10
  clear tq0 tq1 tq2 tq3 tq4 td0 td1 td2 td3 td4
  obtain ⟨tq0, tq1, tq2, tq3, tq4⟩ := Vq.2.1
  obtain ⟨td0, td1, td2, td3, td4⟩ := Vd.2.1
  go_wp2_with fail
  refine (text_to xn N1 N2 N3 _ (by exact yn) (zn.mono (by decide)) K.out.2.2.2.2.2.2.2.2.2.2.1).mono ?_
  rintro e w11 ⟨rfl, hb11⟩
  replace Vq := Vq.to hb11; replace Vd := Vd.to hb11; replace yn := yn.to hb11; replace HW := Lib.hid (hstep HW hb11); clear hb11
  clear tq0 tq1 tq2 tq3 tq4 td0 td1 td2 td3 td4
  obtain ⟨tq0, tq1, tq2, tq3, tq4⟩ := Vq.2.1
  obtain ⟨td0, td1, td2, td3, td4⟩ := Vd.2.1
  go_wp2_with fail
  clear yn
  refine (text_to xd D1 D2 D3 _ (by exact Vd.2.2) (zd.mono (by decide)) K.out.2.2.2.2.2.2.2.2.2.2.2).mono ?_
  rintro e w12 ⟨rfl, hb12⟩
  replace Vq := Vq.to hb12; replace Vd := Vd.to hb12; replace HW := Lib.hid (hstep HW hb12); clear hb12
  clear tq0 tq1 tq2 tq3 tq4 td0 td1 td2 td3 td4
  obtain ⟨tq0, tq1, tq2, tq3, tq4⟩ := Vq.2.1
  obtain ⟨td0, td1, td2, td3, td4⟩ := Vd.2.1
  go_wp2_with fail
  refine (near_a xq Q1 Q2 Q3 _ N.out.1 N.out.2.1 N.out.2.2 (by exact Vq.2.2)).mono ?_
  rintro e w13 ⟨rfl, hb13⟩
  replace Vq := Vq.to hb13; replace Vd := Vd.to hb13; replace HW := Lib.hid (hstep HW hb13); clear hb13
  clear tq0 tq1 tq2 tq3 tq4 td0 td1 td2 td3 td4
  obtain ⟨tq0, tq1, tq2, tq3, tq4⟩ := Vq.2.1
  obtain ⟨td0, td1, td2, td3, td4⟩ := Vd.2.1
  go_wp2_with fail
  exact bodyPost_ret (v := .bool true) (by simp [results, Tryz.results23, go_sem]) rfl ⟨rfl, HW.out⟩
end Go.Proofs.YtgpmlhpgdalheaaGreat

namespace Go.Proofs.YtgpmlhpgdalheaaGreat
open Go.RowKit Pl
set_option linter.unusedVariables false
set_option linter.unusedSimpArgs false
theorem rep_of {a b : Int} {d : Nat} {z : Cx} (hd : 0 < d) (hg : Nat.gcd (Nat.gcd a.natAbs b.natAbs) d = 1) (h1 : (a : Rat) = z.re * (d : Rat)) (h2 : (b : Rat) = z.im * (d : Rat)) : na z = a ∧ nb z = b ∧ nd z = d := of_rep ⟨hd, hg, h1, h2⟩
theorem sz_rep {a b : Int} {d K : Nat} {z : Cx} (h : na z = a ∧ nb z = b ∧ nd z = d) (ha : ln (ab a) ≤ K) (hb : ln (ab b) ≤ K) (hd : ln d ≤ K) : sz K z := ⟨by rw [h.1]; exact ha, by rw [h.2.1]; exact hb, by rw [h.2.2]; exact hd⟩
def ca : Cx := ⟨1, 2⟩
def cb : Cx := ⟨3, -1⟩
def cq : Cx := ⟨1 / 10, 7 / 10⟩
def ci : Cx := ⟨0, 1⟩
def cd : Cx := ⟨3, -2⟩
def cn : Cx := ⟨1 / 2, 0⟩
theorem ca_eq : ofv 1 2 0 = ca := by unfold ofv frz ca; simp; grind
theorem cb_eq : ofv 3 (-1) 0 = cb := by unfold ofv frz cb; simp; grind
theorem ci_eq : ofv 0 1 0 = ci := by unfold ofv frz ci; simp; grind
theorem cq_eq : ca.div cb = cq := by unfold ca cb cq Cx.div Cx.nrm; simp only [Cx.mk.injEq]; constructor <;> grind
theorem cn_eq : cq.norm = cn := by unfold cq cn Cx.norm Cx.nrm; simp only [Cx.mk.injEq]; constructor <;> grind
theorem cu_eq : (Cx.ofInt 3).sub (((Cx.ofInt 2).div (Cx.ofInt 1)).mul ci) = cd := by
  unfold Cx.ofInt ci cd Cx.div Cx.nrm Cx.mul Cx.sub Cx.add Cx.neg; simp only [Cx.mk.injEq]; constructor <;> simp <;> grind
theorem cd_eq : (Cx.ofInt 1).mul cd = cd := by unfold Cx.ofInt cd Cx.mul; simp only [Cx.mk.injEq]; constructor <;> simp <;> grind
theorem cb_ne : cb ≠ Cx.zero := by unfold cb Cx.zero; intro h; injection h with h1 h2; revert h1; decide
theorem c1_ne : Cx.ofInt 1 ≠ Cx.zero := by unfold Cx.ofInt Cx.zero; intro h; injection h with h1 h2; revert h1; simp
theorem cd_ne : cd ≠ Cx.zero := by unfold cd Cx.zero; intro h; injection h with h1 h2; revert h1; decide
theorem cq_form : na cq = 1 ∧ nb cq = 7 ∧ nd cq = 10 := rep_of (by omega) (by decide) (by unfold cq; simp; grind) (by unfold cq; simp; grind)
theorem cn_form : na cn = 1 ∧ nb cn = 0 ∧ nd cn = 2 := rep_of (by omega) (by decide) (by unfold cn; simp; grind) (by unfold cn; simp)
theorem cd_form : na cd = 3 ∧ nb cd = -2 ∧ nd cd = 1 := rep_of (by omega) (by decide) (by unfold cd; simp) (by unfold cd; simp)
theorem small_ln {n : Nat} (h : n < 4294967296) : ln n ≤ 1 := ln_le (n := n) (k := 1) (by omega)
theorem dec_1 : dec 1 = ⟨#[49]⟩ := by unfold dec; rw [if_neg (by omega), rd_pos (by omega), show 1 / 10 = 0 from rfl, rd_zero]; rfl
theorem dec_2 : dec 2 = ⟨#[50]⟩ := by unfold dec; rw [if_neg (by omega), rd_pos (by omega), show 2 / 10 = 0 from rfl, rd_zero]; rfl
theorem dec_3 : dec 3 = ⟨#[51]⟩ := by unfold dec; rw [if_neg (by omega), rd_pos (by omega), show 3 / 10 = 0 from rfl, rd_zero]; rfl
theorem dec_7 : dec 7 = ⟨#[55]⟩ := by unfold dec; rw [if_neg (by omega), rd_pos (by omega), show 7 / 10 = 0 from rfl, rd_zero]; rfl
theorem dec_10 : dec 10 = ⟨#[49, 48]⟩ := by unfold dec; rw [if_neg (by omega), rd_pos (by omega), show 10 / 10 = 1 from rfl, rd_pos (by omega), show 1 / 10 = 0 from rfl, rd_zero]; rfl
theorem fr_at {a : Int} {d : Nat} (hd : 0 < d) (hg : Nat.gcd (Nat.gcd a.natAbs 0) d = 1) : na (fr a 0 d) = a ∧ nb (fr a 0 d) = 0 ∧ nd (fr a 0 d) = d := rep_of hd (by simpa using hg) (by unfold fr; have := rat_ne hd; simp only []; grind) (by unfold fr; simp; grind)
theorem part_lit {a : Int} {d : Nat} {s : ByteArray} (hd : 0 < d) (hg : Nat.gcd (Nat.gcd a.natAbs 0) d = 1) (h : (if d = 1 then (if sn a = true then ⟨#[45]⟩ ++ dec (ab a) else dec (ab a)) else (if sn a = true then ⟨#[45]⟩ ++ dec (ab a) else dec (ab a)) ++ (⟨#[47]⟩ ++ dec d)) = s) : partT (fr a 0 d) = s := by
  obtain ⟨h1, h2, h3⟩ := fr_at hd hg
  unfold partT sgT un
  rw [h1, h3]
  by_cases c : d = 1
  · simp only [c, if_true] at *; exact h
  · simp only [c, if_false] at *; rw [if_neg (by omega)]; exact h
theorem tq_eq : textT cq = ⟨#[49, 47, 49, 48, 43, 55, 47, 49, 48, 105]⟩ := by
  obtain ⟨h1, h2, h3⟩ := cq_form
  unfold textT imT
  rw [h1, h2, h3, part_lit (a := 1) (d := 10) (s := ⟨#[49, 47, 49, 48]⟩) (by omega) (by decide) (by simp [sn, ab, dec_1, dec_10]; rfl), part_lit (a := 7) (d := 10) (s := ⟨#[55, 47, 49, 48]⟩) (by omega) (by decide) (by simp [sn, ab, dec_7, dec_10]; rfl)]
  simp [sn]
  rfl
theorem tn_eq : textT cn = ⟨#[49, 47, 50]⟩ := by
  obtain ⟨h1, h2, h3⟩ := cn_form
  unfold textT
  rw [h1, h2, h3, part_lit (a := 1) (d := 2) (s := ⟨#[49, 47, 50]⟩) (by omega) (by decide) (by simp [sn, ab, dec_1, dec_2]; rfl)]
  rfl
theorem td_eq : textT cd = ⟨#[51, 45, 50, 105]⟩ := by
  obtain ⟨h1, h2, h3⟩ := cd_form
  unfold textT imT
  rw [h1, h2, h3, part_lit (a := 3) (d := 1) (s := ⟨#[51]⟩) (by omega) (by decide) (by simp [sn, ab, dec_3]), part_lit (a := -2) (d := 1) (s := ⟨#[45, 50]⟩) (by omega) (by decide) (by simp [sn, ab, dec_2]; rfl)]
  simp [sn]
  rfl
/-- 'awake' answers true. -/
theorem awake_any (w : World) : Calls Tryz.prog 23 #[] w (RetBool w true) :=
  awake0 w ca cb cq ci (Cx.ofInt 1) (Cx.ofInt 2) (Cx.ofInt 3) cd cn ca_eq cb_eq cb_ne cq_eq ci_eq rfl rfl rfl c1_ne (by rw [cu_eq]; exact cd_ne) (by rw [cu_eq]; exact cd_eq) cn_eq tq_eq tn_eq td_eq cq_form.1 cq_form.2.1 cq_form.2.2
    (by rw [← ca_eq]; exact sz_of (by omega) (by omega) (by omega)) (by rw [← cb_eq]; exact sz_of (by omega) (by omega) (by omega))
    (sz_rep cq_form (Nat.le_trans (small_ln (by decide)) (by omega)) (Nat.le_trans (small_ln (by decide)) (by omega)) (Nat.le_trans (small_ln (by decide)) (by omega)))
    (by rw [← ci_eq]; exact sz_of (by omega) (by omega) (by omega))
    (sz_int (Nat.le_trans (small_ln (by decide)) (by omega)) (by omega)) (sz_int (Nat.le_trans (small_ln (by decide)) (by omega)) (by omega)) (sz_int (Nat.le_trans (small_ln (by decide)) (by omega)) (by omega))
    (sz_rep cd_form (Nat.le_trans (small_ln (by decide)) (by omega)) (Nat.le_trans (small_ln (by decide)) (by omega)) (Nat.le_trans (small_ln (by decide)) (by omega)))
    (sz_rep cn_form (Nat.le_trans (small_ln (by decide)) (by omega)) (Nat.le_trans (small_ln (by decide)) (by omega)) (Nat.le_trans (small_ln (by decide)) (by omega)))
end Go.Proofs.YtgpmlhpgdalheaaGreat
