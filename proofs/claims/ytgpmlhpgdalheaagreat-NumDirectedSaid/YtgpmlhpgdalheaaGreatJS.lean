/- The reference: Of. Values and variables of both sides: a number of the program, a number of the reference. The law's 'scaled': a number times a power of two, on both sides. -/
import Derived.Test.YtgpmlhpgdalheaaGreatJI
import Derived.Test.YtgpmlhpgdalheaaGreatOf
import Derived.Test.YtgpmlhpgdalheaaGreatInv
import Derived.Test.YtgpmlhpgdalheaaGreatRS
import Derived.Test.YtgpmlhpgdalheaaGreatLawA
import Derived.Deep.LoopGhost
namespace Go.Proofs.YtgpmlhpgdalheaaGreat
open Go.RowKit Pl
set_option linter.unusedVariables false
set_option linter.unusedSimpArgs false

/-- The five cells of a number of the reference. -/
def Cells5c (w : World) (g : Nat) (q : Cx) (A1 A2 A3 : Option Addr) (k1 k2 k3 : Nat) : Prop := w.cell? ⟨g, 0, none⟩ = some (.bool (sn (na q))) ∧ w.cell? ⟨g, 1, none⟩ = some (.slice A1 (ln (ab (na q))) k1) ∧ w.cell? ⟨g, 2, none⟩ = some (.bool (sn (nb q))) ∧ w.cell? ⟨g, 3, none⟩ = some (.slice A2 (ln (ab (nb q))) k2) ∧ w.cell? ⟨g, 4, none⟩ = some (.slice A3 (ln (nd q)) k3)
/-- A Num is stored into the five cells of the block p. -/
def set5c (w : World) (p : Nat) (q : Cx) (A1 A2 A3 : Option Addr) (k1 k2 k3 : Nat) : World :=
  ((((w.setCell ⟨p, 0, none⟩ (.bool (sn (na q)))).setCell ⟨p, 1, none⟩ (.slice A1 (ln (ab (na q))) k1)).setCell ⟨p, 2, none⟩ (.bool (sn (nb q)))).setCell ⟨p, 3, none⟩ (.slice A2 (ln (ab (nb q))) k2)).setCell ⟨p, 4, none⟩ (.slice A3 (ln (nd q)) k3)
theorem set5c_size (w : World) (p : Nat) (q : Cx) (A1 A2 A3 : Option Addr) (k1 k2 k3 : Nat) : (set5c w p q A1 A2 A3 k1 k2 k3).heap.size = w.heap.size := by simp [set5c, World.setCell]
theorem set5c_cell {w : World} {p b i : Nat} {q : Cx} {A1 A2 A3 : Option Addr} {k1 k2 k3 : Nat} {v : Value} (h : w.cell? ⟨b, i, none⟩ = some v) (h1 : b ≠ p) : (set5c w p q A1 A2 A3 k1 k2 k3).cell? ⟨b, i, none⟩ = some v := keepo (keepo (keepo (keepo (keepo h (.inl h1)) (.inl h1)) (.inl h1)) (.inl h1)) (.inl h1)
theorem set5c_frozen {w : World} {p b i : Nat} {q : Cx} {A1 A2 A3 : Option Addr} {k1 k2 k3 : Nat} {v : Bool} (h : w.frozen? ⟨b, i, none⟩ = v) : (set5c w p q A1 A2 A3 k1 k2 k3).frozen? ⟨b, i, none⟩ = v := keepof (keepof (keepof (keepof (keepof h))))
theorem set5c_below {w W : World} {B p : Nat} {q : Cx} {A1 A2 A3 : Option Addr} {k1 k2 k3 : Nat} (h : Below B w W) (hp : B ≤ p) : Below B w (set5c W p q A1 A2 A3 k1 k2 k3) :=
  ((((h.setCell (by exact hp) _).setCell (by exact hp) _).setCell (by exact hp) _).setCell (by exact hp) _).setCell (by exact hp) _
theorem set5c_nat {w : World} {p n : Nat} {q : Cx} {A1 A2 A3 A : Option Addr} {k1 k2 k3 : Nat} {c : Bool} (h : Nat32 w A n) (u : w.cell? ⟨p, 0, none⟩ = some (.bool c)) : Nat32 (set5c w p q A1 A2 A3 k1 k2 k3) A n := by
  have nb : ∀ (b : Bool) k m, Value.bool b ≠ .int k m := by intro b k m e; cases e
  have a1 := cell_self (u := .bool (sn (na q))) u
  have a2 := keepo (R := p) (j := 1) (u := .slice A1 (ln (ab (na q))) k1) a1 (.inr (by omega))
  have a3 := keepo (R := p) (j := 2) (u := .bool (sn (Pl.nb q))) a2 (.inr (by omega))
  have a4 := keepo (R := p) (j := 3) (u := .slice A2 (ln (ab (Pl.nb q))) k2) a3 (.inr (by omega))
  exact ((((h.setBox u (nb _)).setBox a1 (nb _)).setBox a2 (nb _)).setBox a3 (nb _)).setBox a4 (nb _)
theorem set5c_num3 {w : World} {p : Nat} {q r : Cx} {A1 A2 A3 B1 B2 B3 : Option Addr} {k1 k2 k3 : Nat} {c : Bool} (h : Num3C w B1 B2 B3 r) (u : w.cell? ⟨p, 0, none⟩ = some (.bool c)) : Num3C (set5c w p q A1 A2 A3 k1 k2 k3) B1 B2 B3 r := ⟨set5c_nat h.1 u, set5c_nat h.2.1 u, set5c_nat h.2.2 u⟩
theorem set5c_self {w : World} {p : Nat} {q : Cx} {A1 A2 A3 : Option Addr} {k1 k2 k3 : Nat} {v0 v1 v2 v3 v4 : Value} (u0 : w.cell? ⟨p, 0, none⟩ = some v0) (u1 : w.cell? ⟨p, 1, none⟩ = some v1) (u2 : w.cell? ⟨p, 2, none⟩ = some v2) (u3 : w.cell? ⟨p, 3, none⟩ = some v3) (u4 : w.cell? ⟨p, 4, none⟩ = some v4) : Cells5c (set5c w p q A1 A2 A3 k1 k2 k3) p q A1 A2 A3 k1 k2 k3 := by
  unfold set5c
  have o0 := cell_self (u := .bool (sn (na q))) u0
  refine ⟨?_, ?_, ?_, ?_, ?_⟩
  · exact keepo (keepo (keepo (keepo o0 (by omega)) (by omega)) (by omega)) (by omega)
  · exact keepo (keepo (keepo (cell_self (keepo u1 (by omega))) (by omega)) (by omega)) (by omega)
  · exact keepo (keepo (cell_self (keepo (keepo u2 (by omega)) (by omega))) (by omega)) (by omega)
  · exact keepo (cell_self (keepo (keepo (keepo u3 (by omega)) (by omega)) (by omega))) (by omega)
  · exact cell_self (keepo (keepo (keepo (keepo u4 (by omega)) (by omega)) (by omega)) (by omega))

set_option maxHeartbeats 4000000 in
theorem rof_more (a b d : Int) (w : World) (ha : -9223372036854775808 ≤ a ∧ a ≤ 9223372036854775807) (hb : -9223372036854775808 ≤ b ∧ b ≤ 9223372036854775807) (hd : -9223372036854775808 ≤ d ∧ d ≤ 9223372036854775807) (h : d ≠ 0) :
    Calls Tryz.prog 70 #[.agg #[.int .i64 a, .int .i64 b, .int .i64 d]] w (RetNumC w (frz a b d)) := by
  have HA := Lib.hid ha
  have HB := Lib.hid hb
  have HD := Lib.hid hd
  have H0 := Lib.hid h
  have t : (d == 0) = false := by rw [beq_eq_false_iff_ne]; omega
  clear ha hb hd h
  go_enter Tryz.func70, Tryz.ntmps70
  go_wp2_with fail
  obtain ⟨W, hW⟩ : ∃ W : World, W = ((w.alloc (.cells #[.int .i64 a, .int .i64 b, .int .i64 d] 23)).alloc (.cells #[.bool false, .slice none 0 0, .bool false, .slice none 0 0, .slice none 0 0] 34)) := ⟨_, rfl⟩
  have s0_0 : W.cell? ⟨w.heap.size, 0, none⟩ = some (.int .i64 a) := by subst hW; go_simp
  have s0_1 : W.cell? ⟨w.heap.size, 1, none⟩ = some (.int .i64 b) := by subst hW; go_simp
  have s0_2 : W.cell? ⟨w.heap.size, 2, none⟩ = some (.int .i64 d) := by subst hW; go_simp
  have r0 : W.cell? ⟨w.heap.size + 1, 0, none⟩ = some (.bool false) := by subst hW; go_simp
  have f0 : W.frozen? ⟨w.heap.size + 1, 0, none⟩ = false := by subst hW; go_simp
  have r1 : W.cell? ⟨w.heap.size + 1, 1, none⟩ = some (.slice none 0 0) := by subst hW; go_simp
  have f1 : W.frozen? ⟨w.heap.size + 1, 1, none⟩ = false := by subst hW; go_simp
  have r2 : W.cell? ⟨w.heap.size + 1, 2, none⟩ = some (.bool false) := by subst hW; go_simp
  have f2 : W.frozen? ⟨w.heap.size + 1, 2, none⟩ = false := by subst hW; go_simp
  have r3 : W.cell? ⟨w.heap.size + 1, 3, none⟩ = some (.slice none 0 0) := by subst hW; go_simp
  have f3 : W.frozen? ⟨w.heap.size + 1, 3, none⟩ = false := by subst hW; go_simp
  have r4 : W.cell? ⟨w.heap.size + 1, 4, none⟩ = some (.slice none 0 0) := by subst hW; go_simp
  have f4 : W.frozen? ⟨w.heap.size + 1, 4, none⟩ = false := by subst hW; go_simp
  have HW : Below w.heap.size w W := by subst hW; exact (((Below.refl w.heap.size w).alloc (Nat.le_refl _) _).alloc (by simp) _)
  have l0 : w.heap.size < W.heap.size := by subst hW; simp <;> omega
  have l1 : w.heap.size + 1 < W.heap.size := by subst hW; simp
  have n0 : w.heap.size ≠ w.heap.size + 1 := by omega
  rw [← hW]
  clear hW
  replace HW := Lib.hid HW
  refine (rnew_any a b d _ HA.out HB.out HD.out H0.out).mono ?_
  rintro e w1 ⟨A1, A2, A3, cA1, cA2, cA3, rfl, h1, hb1⟩
  replace s0_0 := keepc hb1 s0_0 l0
  replace s0_1 := keepc hb1 s0_1 l0
  replace s0_2 := keepc hb1 s0_2 l0
  replace r0 := keepc hb1 r0 l1
  replace f0 := keepf hb1 f0 l1
  replace r1 := keepc hb1 r1 l1
  replace f1 := keepf hb1 f1 l1
  replace r2 := keepc hb1 r2 l1
  replace f2 := keepf hb1 f2 l1
  replace r3 := keepc hb1 r3 l1
  replace f3 := keepf hb1 f3 l1
  replace r4 := keepc hb1 r4 l1
  replace f4 := keepf hb1 f4 l1
  replace l0 := Nat.lt_of_lt_of_le l0 hb1.size
  replace l1 := Nat.lt_of_lt_of_le l1 hb1.size
  replace HW := Lib.hid (hstep HW hb1)
  clear hb1
  go_wp2_with fail
  obtain ⟨X, hX⟩ : ∃ X : World, X = set5c w1 (w.heap.size + 1) (frz a b d) A1 A2 A3 cA1 cA2 cA3 := ⟨_, rfl⟩
  have hw : set5c w1 (w.heap.size + 1) (frz a b d) A1 A2 A3 cA1 cA2 cA3 = X := hX.symm
  unfold set5c at hw
  rw [hw]
  clear hw
  have c5 := set5c_self (q := (frz a b d)) (A1 := A1) (A2 := A2) (A3 := A3) (k1 := cA1) (k2 := cA2) (k3 := cA3) r0 r1 r2 r3 r4
  rw [← hX] at c5
  have HX : Hid (Below w.heap.size w X) := by rw [hX]; exact Lib.hid (set5c_below HW.out (by omega))
  have hx := set5c_num3 (q := (frz a b d)) (A1 := A1) (A2 := A2) (A3 := A3) (k1 := cA1) (k2 := cA2) (k3 := cA3) h1 r0
  rw [← hX] at hx
  have lX : w.heap.size + 1 < X.heap.size := by rw [hX, set5c_size]; exact l1
  clear hX
  obtain ⟨Y, hY⟩ : ∃ Y : World, Y = X.alloc (.cells #[.bool (sn (na (frz a b d))), .slice A1 (ln (ab (na (frz a b d)))) cA1, .bool (sn (nb (frz a b d))), .slice A2 (ln (ab (nb (frz a b d)))) cA2, .slice A3 (ln (nd (frz a b d))) cA3] 34) := ⟨_, rfl⟩
  have b1 : Below X.heap.size X Y := by rw [hY]; exact (Below.refl _ _).alloc (Nat.le_refl _) _
  rw [← hY]
  clear hY
  have hy := hx.to b1
  have k0 := keepc b1 c5.1 lX
  have k1 := keepc b1 c5.2.1 lX
  have k2 := keepc b1 c5.2.2.1 lX
  have k3 := keepc b1 c5.2.2.2.1 lX
  have k4 := keepc b1 c5.2.2.2.2 lX
  replace HX := Lib.hid (hstep HX b1)
  clear c5 r0 r1 r2 r3 r4 f0 f1 f2 f3 f4 b1
  exact bodyPost_ret (v := .agg #[.bool (sn (na (frz a b d))), .slice A1 (ln (ab (na (frz a b d)))) cA1, .bool (sn (nb (frz a b d))), .slice A2 (ln (ab (nb (frz a b d)))) cA2, .slice A3 (ln (nd (frz a b d))) cA3]) (by simp [results, Tryz.results70, go_sem, k0, k1, k2, k3, k4]) rfl ⟨A1, A2, A3, cA1, cA2, cA3, rfl, hy, HX.out⟩

set_option maxHeartbeats 4000000 in
theorem rof_zero0 (a b : Int) (q : Cx) (w : World) (HN : ∀ w, Calls Tryz.prog 131 #[.int .i64 a, .int .i64 b, .int .i64 1] w (RetNumCE w 0 q)) :
    Calls Tryz.prog 70 #[.agg #[.int .i64 a, .int .i64 b, .int .i64 0]] w (RetNumC w q) := by
  go_enter Tryz.func70, Tryz.ntmps70
  go_wp2_with fail
  obtain ⟨W, hW⟩ : ∃ W : World, W = ((w.alloc (.cells #[.int .i64 a, .int .i64 b, .int .i64 1] 23)).alloc (.cells #[.bool false, .slice none 0 0, .bool false, .slice none 0 0, .slice none 0 0] 34)) := ⟨_, rfl⟩
  have s0_0 : W.cell? ⟨w.heap.size, 0, none⟩ = some (.int .i64 a) := by subst hW; go_simp
  have s0_1 : W.cell? ⟨w.heap.size, 1, none⟩ = some (.int .i64 b) := by subst hW; go_simp
  have s0_2 : W.cell? ⟨w.heap.size, 2, none⟩ = some (.int .i64 1) := by subst hW; go_simp
  have r0 : W.cell? ⟨w.heap.size + 1, 0, none⟩ = some (.bool false) := by subst hW; go_simp
  have f0 : W.frozen? ⟨w.heap.size + 1, 0, none⟩ = false := by subst hW; go_simp
  have r1 : W.cell? ⟨w.heap.size + 1, 1, none⟩ = some (.slice none 0 0) := by subst hW; go_simp
  have f1 : W.frozen? ⟨w.heap.size + 1, 1, none⟩ = false := by subst hW; go_simp
  have r2 : W.cell? ⟨w.heap.size + 1, 2, none⟩ = some (.bool false) := by subst hW; go_simp
  have f2 : W.frozen? ⟨w.heap.size + 1, 2, none⟩ = false := by subst hW; go_simp
  have r3 : W.cell? ⟨w.heap.size + 1, 3, none⟩ = some (.slice none 0 0) := by subst hW; go_simp
  have f3 : W.frozen? ⟨w.heap.size + 1, 3, none⟩ = false := by subst hW; go_simp
  have r4 : W.cell? ⟨w.heap.size + 1, 4, none⟩ = some (.slice none 0 0) := by subst hW; go_simp
  have f4 : W.frozen? ⟨w.heap.size + 1, 4, none⟩ = false := by subst hW; go_simp
  have HW : Below w.heap.size w W := by subst hW; exact (((Below.refl w.heap.size w).alloc (Nat.le_refl _) _).alloc (by simp) _)
  have l0 : w.heap.size < W.heap.size := by subst hW; simp <;> omega
  have l1 : w.heap.size + 1 < W.heap.size := by subst hW; simp
  have n0 : w.heap.size ≠ w.heap.size + 1 := by omega
  rw [← hW]
  clear hW
  replace HW := Lib.hid HW
  refine (HN _).mono ?_
  rintro e w1 ⟨A1, A2, A3, cA1, cA2, cA3, rfl, h1, hb1⟩
  replace s0_0 := keepc hb1 s0_0 l0
  replace s0_1 := keepc hb1 s0_1 l0
  replace s0_2 := keepc hb1 s0_2 l0
  replace r0 := keepc hb1 r0 l1
  replace f0 := keepf hb1 f0 l1
  replace r1 := keepc hb1 r1 l1
  replace f1 := keepf hb1 f1 l1
  replace r2 := keepc hb1 r2 l1
  replace f2 := keepf hb1 f2 l1
  replace r3 := keepc hb1 r3 l1
  replace f3 := keepf hb1 f3 l1
  replace r4 := keepc hb1 r4 l1
  replace f4 := keepf hb1 f4 l1
  replace l0 := Nat.lt_of_lt_of_le l0 hb1.size
  replace l1 := Nat.lt_of_lt_of_le l1 hb1.size
  replace HW := Lib.hid (hstep HW hb1)
  clear hb1
  go_wp2_with fail
  obtain ⟨X, hX⟩ : ∃ X : World, X = set5c w1 (w.heap.size + 1) q A1 A2 A3 cA1 cA2 cA3 := ⟨_, rfl⟩
  have hw : set5c w1 (w.heap.size + 1) q A1 A2 A3 cA1 cA2 cA3 = X := hX.symm
  unfold set5c at hw
  rw [hw]
  clear hw
  have c5 := set5c_self (q := q) (A1 := A1) (A2 := A2) (A3 := A3) (k1 := cA1) (k2 := cA2) (k3 := cA3) r0 r1 r2 r3 r4
  rw [← hX] at c5
  have HX : Hid (Below w.heap.size w X) := by rw [hX]; exact Lib.hid (set5c_below HW.out (by omega))
  have hx := set5c_num3 (q := q) (A1 := A1) (A2 := A2) (A3 := A3) (k1 := cA1) (k2 := cA2) (k3 := cA3) h1 r0
  rw [← hX] at hx
  have lX : w.heap.size + 1 < X.heap.size := by rw [hX, set5c_size]; exact l1
  clear hX
  obtain ⟨Y, hY⟩ : ∃ Y : World, Y = X.alloc (.cells #[.bool (sn (na q)), .slice A1 (ln (ab (na q))) cA1, .bool (sn (nb q)), .slice A2 (ln (ab (nb q))) cA2, .slice A3 (ln (nd q)) cA3] 34) := ⟨_, rfl⟩
  have b1 : Below X.heap.size X Y := by rw [hY]; exact (Below.refl _ _).alloc (Nat.le_refl _) _
  rw [← hY]
  clear hY
  have hy := hx.to b1
  have k0 := keepc b1 c5.1 lX
  have k1 := keepc b1 c5.2.1 lX
  have k2 := keepc b1 c5.2.2.1 lX
  have k3 := keepc b1 c5.2.2.2.1 lX
  have k4 := keepc b1 c5.2.2.2.2 lX
  replace HX := Lib.hid (hstep HX b1)
  clear c5 r0 r1 r2 r3 r4 f0 f1 f2 f3 f4 b1
  exact bodyPost_ret (v := .agg #[.bool (sn (na q)), .slice A1 (ln (ab (na q))) cA1, .bool (sn (nb q)), .slice A2 (ln (ab (nb q))) cA2, .slice A3 (ln (nd q)) cA3]) (by simp [results, Tryz.results70, go_sem, k0, k1, k2, k3, k4]) rfl ⟨A1, A2, A3, cA1, cA2, cA3, rfl, hy, HX.out⟩

/-- 'Of' of the reference. -/
theorem rof_any (a b d : Int) (w : World) (ha : -9223372036854775808 ≤ a ∧ a ≤ 9223372036854775807) (hb : -9223372036854775808 ≤ b ∧ b ≤ 9223372036854775807) (hd : -9223372036854775808 ≤ d ∧ d ≤ 9223372036854775807) :
    Calls Tryz.prog 70 #[.agg #[.int .i64 a, .int .i64 b, .int .i64 d]] w (RetNumC w (ofv a b d)) := by
  by_cases h : d = 0
  · subst h; exact rof_zero0 a b (frz a b 1) w (fun w => rnew_any a b 1 w ha hb (by omega) (by omega))
  · have := rof_more a b d w ha hb hd h
    unfold ofv; rw [if_neg h]; exact this
end Go.Proofs.YtgpmlhpgdalheaaGreat

namespace Go.Proofs.YtgpmlhpgdalheaaGreat
open Go.RowKit Pl
set_option linter.unusedVariables false
set_option linter.unusedSimpArgs false

/-- A slot holds a number of the reference. -/
def SlotNumC (w : World) (u : Value) (q : Cx) : Prop := ∃ A1 A2 A3 c1 c2 c3, u = .agg #[.bool (sn (na q)), .slice A1 (ln (ab (na q))) c1, .bool (sn (nb q)), .slice A2 (ln (ab (nb q))) c2, .slice A3 (ln (nd q)) c3] ∧ Num3C w A1 A2 A3 q
theorem SlotNumC.to {w w' : World} {u : Value} {q : Cx} (h : SlotNumC w u q) (hb : Below w.heap.size w w') : SlotNumC w' u q := by
  obtain ⟨A1, A2, A3, c1, c2, c3, e, h⟩ := h; exact ⟨A1, A2, A3, c1, c2, c3, e, h.to hb⟩
def Froz (w : World) (g : Nat) : Prop := w.frozen? ⟨g, 0, none⟩ = false ∧ w.frozen? ⟨g, 1, none⟩ = false ∧ w.frozen? ⟨g, 2, none⟩ = false ∧ w.frozen? ⟨g, 3, none⟩ = false ∧ w.frozen? ⟨g, 4, none⟩ = false
/-- Five cells of a variable. -/
def Var5 (w : World) (g : Nat) : Prop := g < w.heap.size ∧ (∃ c v1 v2 v3 v4, w.cell? ⟨g, 0, none⟩ = some (.bool c) ∧ w.cell? ⟨g, 1, none⟩ = some v1 ∧ w.cell? ⟨g, 2, none⟩ = some v2 ∧ w.cell? ⟨g, 3, none⟩ = some v3 ∧ w.cell? ⟨g, 4, none⟩ = some v4) ∧ Froz w g
/-- The variable holds a number of the program; of the reference. -/
def HasP (w : World) (g : Nat) (q : Cx) : Prop := g < w.heap.size ∧ (∃ A1 A2 A3, Cells5 w g q A1 A2 A3 ∧ Num3 w A1 A2 A3 q) ∧ Froz w g
def HasR (w : World) (g : Nat) (q : Cx) : Prop := g < w.heap.size ∧ (∃ A1 A2 A3 k1 k2 k3, Cells5c w g q A1 A2 A3 k1 k2 k3 ∧ Num3C w A1 A2 A3 q) ∧ Froz w g
theorem HasP.var {w : World} {g : Nat} {q : Cx} (h : HasP w g q) : Var5 w g := by
  obtain ⟨l, ⟨A1, A2, A3, ⟨c0, c1, c2, c3, c4⟩, _⟩, f⟩ := h; exact ⟨l, ⟨_, _, _, _, _, c0, c1, c2, c3, c4⟩, f⟩
theorem HasR.var {w : World} {g : Nat} {q : Cx} (h : HasR w g q) : Var5 w g := by
  obtain ⟨l, ⟨A1, A2, A3, k1, k2, k3, ⟨c0, c1, c2, c3, c4⟩, _⟩, f⟩ := h; exact ⟨l, ⟨_, _, _, _, _, c0, c1, c2, c3, c4⟩, f⟩
theorem Froz.to {w w' : World} {g : Nat} (h : Froz w g) (hb : Below w.heap.size w w') (hl : g < w.heap.size) : Froz w' g := ⟨keepf hb h.1 hl, keepf hb h.2.1 hl, keepf hb h.2.2.1 hl, keepf hb h.2.2.2.1 hl, keepf hb h.2.2.2.2 hl⟩
theorem Froz.set5 {w : World} {g p : Nat} {q : Cx} {A1 A2 A3 : Option Addr} (h : Froz w g) : Froz (set5 w p q A1 A2 A3) g := ⟨set5_frozen h.1, set5_frozen h.2.1, set5_frozen h.2.2.1, set5_frozen h.2.2.2.1, set5_frozen h.2.2.2.2⟩
theorem Froz.set5c {w : World} {g p : Nat} {q : Cx} {A1 A2 A3 : Option Addr} {k1 k2 k3 : Nat} (h : Froz w g) : Froz (set5c w p q A1 A2 A3 k1 k2 k3) g := ⟨set5c_frozen h.1, set5c_frozen h.2.1, set5c_frozen h.2.2.1, set5c_frozen h.2.2.2.1, set5c_frozen h.2.2.2.2⟩
theorem Var5.to {w w' : World} {g : Nat} (h : Var5 w g) (hb : Below w.heap.size w w') : Var5 w' g := by
  obtain ⟨l, ⟨c, v1, v2, v3, v4, c0, c1, c2, c3, c4⟩, f⟩ := h
  exact ⟨Nat.lt_of_lt_of_le l hb.size, ⟨c, v1, v2, v3, v4, keepc hb c0 l, keepc hb c1 l, keepc hb c2 l, keepc hb c3 l, keepc hb c4 l⟩, f.to hb l⟩
theorem HasP.to {w w' : World} {g : Nat} {q : Cx} (h : HasP w g q) (hb : Below w.heap.size w w') : HasP w' g q := by
  obtain ⟨l, ⟨A1, A2, A3, ⟨c0, c1, c2, c3, c4⟩, n⟩, f⟩ := h
  exact ⟨Nat.lt_of_lt_of_le l hb.size, ⟨A1, A2, A3, ⟨keepc hb c0 l, keepc hb c1 l, keepc hb c2 l, keepc hb c3 l, keepc hb c4 l⟩, n.to hb⟩, f.to hb l⟩
theorem HasR.to {w w' : World} {g : Nat} {q : Cx} (h : HasR w g q) (hb : Below w.heap.size w w') : HasR w' g q := by
  obtain ⟨l, ⟨A1, A2, A3, k1, k2, k3, ⟨c0, c1, c2, c3, c4⟩, n⟩, f⟩ := h
  exact ⟨Nat.lt_of_lt_of_le l hb.size, ⟨A1, A2, A3, k1, k2, k3, ⟨keepc hb c0 l, keepc hb c1 l, keepc hb c2 l, keepc hb c3 l, keepc hb c4 l⟩, n.to hb⟩, f.to hb l⟩
-- a store into the block p (a number of the program)
theorem set5_num3C {w : World} {p : Nat} {q r : Cx} {A1 A2 A3 B1 B2 B3 : Option Addr} {c : Bool} (h : Num3C w B1 B2 B3 r) (u : w.cell? ⟨p, 0, none⟩ = some (.bool c)) : Num3C (set5 w p q A1 A2 A3) B1 B2 B3 r := ⟨set5_nat h.1 u, set5_nat h.2.1 u, set5_nat h.2.2 u⟩
theorem set5c_num3P {w : World} {p : Nat} {q r : Cx} {A1 A2 A3 B1 B2 B3 : Option Addr} {k1 k2 k3 : Nat} {c : Bool} (h : Num3 w B1 B2 B3 r) (u : w.cell? ⟨p, 0, none⟩ = some (.bool c)) : Num3 (set5c w p q A1 A2 A3 k1 k2 k3) B1 B2 B3 r := ⟨set5c_nat h.1 u, set5c_nat h.2.1 u, set5c_nat h.2.2 u⟩
theorem SlotNumC.set5 {w : World} {u : Value} {q r : Cx} {p : Nat} {A1 A2 A3 : Option Addr} {c : Bool} (h : SlotNumC w u r) (k : w.cell? ⟨p, 0, none⟩ = some (.bool c)) : SlotNumC (set5 w p q A1 A2 A3) u r := by
  obtain ⟨B1, B2, B3, d1, d2, d3, e, h⟩ := h; exact ⟨B1, B2, B3, d1, d2, d3, e, set5_num3C h k⟩
theorem SlotNumC.set5c {w : World} {u : Value} {q r : Cx} {p : Nat} {A1 A2 A3 : Option Addr} {k1 k2 k3 : Nat} {c : Bool} (h : SlotNumC w u r) (k : w.cell? ⟨p, 0, none⟩ = some (.bool c)) : SlotNumC (set5c w p q A1 A2 A3 k1 k2 k3) u r := by
  obtain ⟨B1, B2, B3, d1, d2, d3, e, h⟩ := h; exact ⟨B1, B2, B3, d1, d2, d3, e, set5c_num3 h k⟩
theorem SlotNum.set5c {w : World} {u : Value} {q r : Cx} {p : Nat} {A1 A2 A3 : Option Addr} {k1 k2 k3 : Nat} {c : Bool} (h : SlotNum w u r) (k : w.cell? ⟨p, 0, none⟩ = some (.bool c)) : SlotNum (set5c w p q A1 A2 A3 k1 k2 k3) u r := by
  obtain ⟨B1, B2, B3, e, h⟩ := h; exact ⟨B1, B2, B3, e, set5c_num3P h k⟩
theorem HasP.set5 {w : World} {g p : Nat} {q r : Cx} {A1 A2 A3 : Option Addr} {c : Bool} (h : HasP w g r) (hn : g ≠ p) (k : w.cell? ⟨p, 0, none⟩ = some (.bool c)) : HasP (set5 w p q A1 A2 A3) g r := by
  obtain ⟨l, ⟨B1, B2, B3, ⟨c0, c1, c2, c3, c4⟩, n⟩, f⟩ := h
  exact ⟨by rw [set5_size]; exact l, ⟨B1, B2, B3, ⟨set5_cell c0 hn, set5_cell c1 hn, set5_cell c2 hn, set5_cell c3 hn, set5_cell c4 hn⟩, set5_num3 n k⟩, f.set5⟩
theorem HasP.set5c {w : World} {g p : Nat} {q r : Cx} {A1 A2 A3 : Option Addr} {k1 k2 k3 : Nat} {c : Bool} (h : HasP w g r) (hn : g ≠ p) (k : w.cell? ⟨p, 0, none⟩ = some (.bool c)) : HasP (set5c w p q A1 A2 A3 k1 k2 k3) g r := by
  obtain ⟨l, ⟨B1, B2, B3, ⟨c0, c1, c2, c3, c4⟩, n⟩, f⟩ := h
  exact ⟨by rw [set5c_size]; exact l, ⟨B1, B2, B3, ⟨set5c_cell c0 hn, set5c_cell c1 hn, set5c_cell c2 hn, set5c_cell c3 hn, set5c_cell c4 hn⟩, set5c_num3P n k⟩, f.set5c⟩
theorem HasR.set5 {w : World} {g p : Nat} {q r : Cx} {A1 A2 A3 : Option Addr} {c : Bool} (h : HasR w g r) (hn : g ≠ p) (k : w.cell? ⟨p, 0, none⟩ = some (.bool c)) : HasR (set5 w p q A1 A2 A3) g r := by
  obtain ⟨l, ⟨B1, B2, B3, d1, d2, d3, ⟨c0, c1, c2, c3, c4⟩, n⟩, f⟩ := h
  exact ⟨by rw [set5_size]; exact l, ⟨B1, B2, B3, d1, d2, d3, ⟨set5_cell c0 hn, set5_cell c1 hn, set5_cell c2 hn, set5_cell c3 hn, set5_cell c4 hn⟩, set5_num3C n k⟩, f.set5⟩
theorem HasR.set5c {w : World} {g p : Nat} {q r : Cx} {A1 A2 A3 : Option Addr} {k1 k2 k3 : Nat} {c : Bool} (h : HasR w g r) (hn : g ≠ p) (k : w.cell? ⟨p, 0, none⟩ = some (.bool c)) : HasR (set5c w p q A1 A2 A3 k1 k2 k3) g r := by
  obtain ⟨l, ⟨B1, B2, B3, d1, d2, d3, ⟨c0, c1, c2, c3, c4⟩, n⟩, f⟩ := h
  exact ⟨by rw [set5c_size]; exact l, ⟨B1, B2, B3, d1, d2, d3, ⟨set5c_cell c0 hn, set5c_cell c1 hn, set5c_cell c2 hn, set5c_cell c3 hn, set5c_cell c4 hn⟩, set5c_num3 n k⟩, f.set5c⟩
theorem Var5.set5 {w : World} {g p : Nat} {q : Cx} {A1 A2 A3 : Option Addr} (h : Var5 w g) (hn : g ≠ p) : Var5 (set5 w p q A1 A2 A3) g := by
  obtain ⟨l, ⟨c, v1, v2, v3, v4, c0, c1, c2, c3, c4⟩, f⟩ := h
  exact ⟨by rw [set5_size]; exact l, ⟨c, v1, v2, v3, v4, set5_cell c0 hn, set5_cell c1 hn, set5_cell c2 hn, set5_cell c3 hn, set5_cell c4 hn⟩, f.set5⟩
theorem Var5.set5c {w : World} {g p : Nat} {q : Cx} {A1 A2 A3 : Option Addr} {k1 k2 k3 : Nat} (h : Var5 w g) (hn : g ≠ p) : Var5 (set5c w p q A1 A2 A3 k1 k2 k3) g := by
  obtain ⟨l, ⟨c, v1, v2, v3, v4, c0, c1, c2, c3, c4⟩, f⟩ := h
  exact ⟨by rw [set5c_size]; exact l, ⟨c, v1, v2, v3, v4, set5c_cell c0 hn, set5c_cell c1 hn, set5c_cell c2 hn, set5c_cell c3 hn, set5c_cell c4 hn⟩, f.set5c⟩
theorem Var5.putP {w : World} {p : Nat} {q : Cx} {A1 A2 A3 : Option Addr} (h : Var5 w p) (hq : Num3 w A1 A2 A3 q) : HasP (Proofs.YtgpmlhpgdalheaaGreat.set5 w p q A1 A2 A3) p q := by
  obtain ⟨l, ⟨c, v1, v2, v3, v4, c0, c1, c2, c3, c4⟩, f⟩ := h
  exact ⟨by rw [set5_size]; exact l, ⟨A1, A2, A3, set5_self c0 c1 c2 c3 c4, set5_num3 hq c0⟩, f.set5⟩
theorem Var5.putR {w : World} {p : Nat} {q : Cx} {A1 A2 A3 : Option Addr} {k1 k2 k3 : Nat} (h : Var5 w p) (hq : Num3C w A1 A2 A3 q) : HasR (Proofs.YtgpmlhpgdalheaaGreat.set5c w p q A1 A2 A3 k1 k2 k3) p q := by
  obtain ⟨l, ⟨c, v1, v2, v3, v4, c0, c1, c2, c3, c4⟩, f⟩ := h
  exact ⟨by rw [set5c_size]; exact l, ⟨A1, A2, A3, k1, k2, k3, set5c_self c0 c1 c2 c3 c4, set5c_num3 hq c0⟩, f.set5c⟩
theorem Var5.new {w : World} {T : TypeId} : Var5 (w.alloc (.cells #[.bool false, .slice none 0 0, .bool false, .slice none 0 0, .slice none 0 0] T)) w.heap.size :=
  ⟨by simp, ⟨false, .slice none 0 0, .bool false, .slice none 0 0, .slice none 0 0, by go_simp, by go_simp, by go_simp, by go_simp, by go_simp⟩, by go_simp, by go_simp, by go_simp, by go_simp, by go_simp⟩
/-- What a slot points to. -/
def AtV (B : Nat) (w : World) (u : Value) : Prop := ∃ g, u = .pointer (some ⟨g, 0, none⟩) ∧ B ≤ g ∧ Var5 w g
theorem AtV.to {B : Nat} {w w' : World} {u : Value} (h : AtV B w u) (hb : Below w.heap.size w w') : AtV B w' u := by obtain ⟨g, e, h1, h2⟩ := h; exact ⟨g, e, h1, h2.to hb⟩
theorem AtV.new {B : Nat} {w : World} {T : TypeId} (hB : B ≤ w.heap.size) : AtV B (w.alloc (.cells #[.bool false, .slice none 0 0, .bool false, .slice none 0 0, .slice none 0 0] T)) (.pointer (some ⟨w.heap.size, 0, none⟩)) := ⟨_, rfl, hB, Var5.new⟩
theorem AtV.ne {B : Nat} {w : World} {u : Value} (h : AtV B w u) : u ≠ .pointer (some ⟨w.heap.size, 0, none⟩) := by
  obtain ⟨g, e, h1, h2, _⟩ := h
  intro e2; rw [e] at e2
  injection e2 with e2; injection e2 with e2; injection e2 with e2; omega
theorem AtV.set5 {B : Nat} {w : World} {u : Value} {q : Cx} {p : Nat} {A1 A2 A3 : Option Addr} (h : AtV B w u) (hn : u ≠ .pointer (some ⟨p, 0, none⟩)) : AtV B (set5 w p q A1 A2 A3) u := by
  obtain ⟨g, e, h1, h2⟩ := h; exact ⟨g, e, h1, h2.set5 (by rintro rfl; exact hn e)⟩
theorem AtV.set5c {B : Nat} {w : World} {u : Value} {q : Cx} {p : Nat} {A1 A2 A3 : Option Addr} {k1 k2 k3 : Nat} (h : AtV B w u) (hn : u ≠ .pointer (some ⟨p, 0, none⟩)) : AtV B (set5c w p q A1 A2 A3 k1 k2 k3) u := by
  obtain ⟨g, e, h1, h2⟩ := h; exact ⟨g, e, h1, h2.set5c (by rintro rfl; exact hn e)⟩
theorem set5_var {w : World} {p : Nat} {q : Cx} {A1 A2 A3 : Option Addr} (h : Var5 w p) : Var5 (set5 w p q A1 A2 A3) p := by
  obtain ⟨l, ⟨c, v1, v2, v3, v4, c0, c1, c2, c3, c4⟩, f⟩ := h
  obtain ⟨d0, d1, d2, d3, d4⟩ := set5_self (q := q) (A1 := A1) (A2 := A2) (A3 := A3) c0 c1 c2 c3 c4
  exact ⟨by rw [set5_size]; exact l, ⟨_, _, _, _, _, d0, d1, d2, d3, d4⟩, f.set5⟩
theorem set5c_var {w : World} {p : Nat} {q : Cx} {A1 A2 A3 : Option Addr} {k1 k2 k3 : Nat} (h : Var5 w p) : Var5 (set5c w p q A1 A2 A3 k1 k2 k3) p := by
  obtain ⟨l, ⟨c, v1, v2, v3, v4, c0, c1, c2, c3, c4⟩, f⟩ := h
  obtain ⟨d0, d1, d2, d3, d4⟩ := set5c_self (q := q) (A1 := A1) (A2 := A2) (A3 := A3) (k1 := k1) (k2 := k2) (k3 := k3) c0 c1 c2 c3 c4
  exact ⟨by rw [set5c_size]; exact l, ⟨_, _, _, _, _, d0, d1, d2, d3, d4⟩, f.set5c⟩
/-- A slot points to a variable that holds a number. -/
def PtP (w : World) (u : Value) (q : Cx) : Prop := ∃ g, u = .pointer (some ⟨g, 0, none⟩) ∧ HasP w g q
def PtR (w : World) (u : Value) (q : Cx) : Prop := ∃ g, u = .pointer (some ⟨g, 0, none⟩) ∧ HasR w g q
theorem PtP.to {w w' : World} {u : Value} {q : Cx} (h : PtP w u q) (hb : Below w.heap.size w w') : PtP w' u q := by obtain ⟨g, e, h⟩ := h; exact ⟨g, e, h.to hb⟩
theorem PtR.to {w w' : World} {u : Value} {q : Cx} (h : PtR w u q) (hb : Below w.heap.size w w') : PtR w' u q := by obtain ⟨g, e, h⟩ := h; exact ⟨g, e, h.to hb⟩
theorem PtP.set5 {w : World} {u : Value} {q r : Cx} {p : Nat} {A1 A2 A3 : Option Addr} {c : Bool} (h : PtP w u r) (hn : u ≠ .pointer (some ⟨p, 0, none⟩)) (k : w.cell? ⟨p, 0, none⟩ = some (.bool c)) : PtP (set5 w p q A1 A2 A3) u r := by
  obtain ⟨g, e, h⟩ := h; exact ⟨g, e, h.set5 (by rintro rfl; exact hn e) k⟩
theorem PtP.set5c {w : World} {u : Value} {q r : Cx} {p : Nat} {A1 A2 A3 : Option Addr} {k1 k2 k3 : Nat} {c : Bool} (h : PtP w u r) (hn : u ≠ .pointer (some ⟨p, 0, none⟩)) (k : w.cell? ⟨p, 0, none⟩ = some (.bool c)) : PtP (set5c w p q A1 A2 A3 k1 k2 k3) u r := by
  obtain ⟨g, e, h⟩ := h; exact ⟨g, e, h.set5c (by rintro rfl; exact hn e) k⟩
theorem PtR.set5 {w : World} {u : Value} {q r : Cx} {p : Nat} {A1 A2 A3 : Option Addr} {c : Bool} (h : PtR w u r) (hn : u ≠ .pointer (some ⟨p, 0, none⟩)) (k : w.cell? ⟨p, 0, none⟩ = some (.bool c)) : PtR (set5 w p q A1 A2 A3) u r := by
  obtain ⟨g, e, h⟩ := h; exact ⟨g, e, h.set5 (by rintro rfl; exact hn e) k⟩
theorem PtR.set5c {w : World} {u : Value} {q r : Cx} {p : Nat} {A1 A2 A3 : Option Addr} {k1 k2 k3 : Nat} {c : Bool} (h : PtR w u r) (hn : u ≠ .pointer (some ⟨p, 0, none⟩)) (k : w.cell? ⟨p, 0, none⟩ = some (.bool c)) : PtR (set5c w p q A1 A2 A3 k1 k2 k3) u r := by
  obtain ⟨g, e, h⟩ := h; exact ⟨g, e, h.set5c (by rintro rfl; exact hn e) k⟩
theorem HasP.slot {w : World} {g : Nat} {q : Cx} (h : HasP w g q) : ∃ A1 A2 A3, Cells5 w g q A1 A2 A3 ∧ Num3 w A1 A2 A3 q := h.2.1
theorem HasR.slot {w : World} {g : Nat} {q : Cx} (h : HasR w g q) : ∃ A1 A2 A3 k1 k2 k3, Cells5c w g q A1 A2 A3 k1 k2 k3 ∧ Num3C w A1 A2 A3 q := h.2.1
end Go.Proofs.YtgpmlhpgdalheaaGreat

namespace Go.Proofs.YtgpmlhpgdalheaaGreat
open Go.RowKit Pl
set_option linter.unusedVariables false
set_option linter.unusedSimpArgs false

/-- A call hands back the same number on both sides. -/
def RetTwo (w : World) (K : Nat) (e : Ending) (w' : World) : Prop := ∃ q A1 A2 A3 B1 B2 B3 c1 c2 c3, sz K q ∧ e = .returned (.tuple #[.agg #[.bool (sn (na q)), .slice A1 (ln (ab (na q))) (ln (ab (na q))), .bool (sn (nb q)), .slice A2 (ln (ab (nb q))) (ln (ab (nb q))), .slice A3 (ln (un q)) (ln (un q))], .agg #[.bool (sn (na q)), .slice B1 (ln (ab (na q))) c1, .bool (sn (nb q)), .slice B2 (ln (ab (nb q))) c2, .slice B3 (ln (nd q)) c3]]) ∧ Num3 w' A1 A2 A3 q ∧ Num3C w' B1 B2 B3 q ∧ Below w.heap.size w w'
theorem wrap_negS {n : Int} (h : -1200 < n) (h2 : n < 0) : wrap64 (-n) = ((-n).toNat : Int) := by simp [wrap64]; omega
theorem PtP.at {B : Nat} {w : World} {u : Value} {q : Cx} (h : PtP w u q) (k : AtV B w u) : ∃ g, u = .pointer (some ⟨g, 0, none⟩) ∧ B ≤ g ∧ HasP w g q := by
  obtain ⟨g, e, h⟩ := h; obtain ⟨g2, e2, h2, _⟩ := k
  rw [e] at e2; injection e2 with e2; injection e2 with e2; injection e2 with e2
  exact ⟨g, e, by omega, h⟩
theorem PtR.at {B : Nat} {w : World} {u : Value} {q : Cx} (h : PtR w u q) (k : AtV B w u) : ∃ g, u = .pointer (some ⟨g, 0, none⟩) ∧ B ≤ g ∧ HasR w g q := by
  obtain ⟨g, e, h⟩ := h; obtain ⟨g2, e2, h2, _⟩ := k
  rw [e] at e2; injection e2 with e2; injection e2 with e2; injection e2 with e2
  exact ⟨g, e, by omega, h⟩
theorem on_at {l : Array Bool} {i : Nat} (h : i < l.size) : on (l.setIfInBounds i true) i = true := by
  unfold on
  simp [Array.getD_eq_getD_getElem?, Array.getElem?_setIfInBounds, h]
theorem wrap_half {g : Nat} (h : g < 1200) : wrap64 ((g : Int) / 2) = ((g / 2 : Nat) : Int) := by simp [wrap64]; omega
theorem sc_step {K g : Nat} (h : (K + 1) * g ≤ 3600) (hg : g ≠ 0) : (2 * K + 1 + 1) * (g / 2) ≤ 3600 ∧ 2 * K + 1 ≤ 7200 := by
  have h1 : (K + 1) * 1 ≤ (K + 1) * g := Nat.mul_le_mul_left _ (by omega)
  have h2 : (K + 1) * (2 * (g / 2)) ≤ (K + 1) * g := Nat.mul_le_mul_left _ (by omega)
  have h3 : (2 * K + 1 + 1) * (g / 2) = (K + 1) * (2 * (g / 2)) := by rw [show 2 * K + 1 + 1 = (K + 1) * 2 by omega, Nat.mul_assoc]
  omega
/-- What the two sides hold in the loop. -/
def ScIn (w : World) (R1 R2 g7 g8 g9 g10 m : Nat) (wr : World) : Prop := ∃ t x K, sz K t ∧ sz K x ∧ (K + 1) * m ≤ 3600 ∧ K ≤ 7200 ∧ HasP wr g7 t ∧ HasR wr g8 t ∧ HasP wr g9 x ∧ HasR wr g10 x ∧ Var5 wr R1 ∧ Var5 wr R2 ∧ Below w.heap.size w wr

set_option maxHeartbeats 4000000 in
theorem scaled_pos (y : Cx) (a b d s : Int) (w : World) (HO : ∀ w : World, Calls Tryz.prog 58 #[.agg #[.int .i64 a, .int .i64 b, .int .i64 d]] w (RetNum w y)) (HR : ∀ w : World, Calls Tryz.prog 70 #[.agg #[.int .i64 a, .int .i64 b, .int .i64 d]] w (RetNumC w y)) (zy : sz 2 y) (h1 : -32768 ≤ s) (h2 : s ≤ 32767) (n : Int) (hs : s.tmod 1200 = n) (h3 : -1200 < n) (h4 : n < 1200) (hn : 0 ≤ n) :
    Calls Tryz.prog 12 #[.agg #[.int .i64 a, .int .i64 b, .int .i64 d], .int .i16 s] w (RetTwo w 7200) := by
  obtain ⟨m, hm⟩ : ∃ m : Nat, m = n.toNat := ⟨_, rfl⟩
  have hm2 : m < 1200 := by omega
  have t1 : decide (n < 0) = false := by simpa using hn
  have hw : n = (m : Int) := by omega
  have HM := Lib.hid hm2
  have HWN := Lib.hid hw
  clear hm hm2 hw h3 h4 hn
  go_enter Tryz.func12, Tryz.ntmps12
  go_wp2_with fail
  obtain ⟨W, hW⟩ : ∃ W : World, W = (((w.alloc (.cells #[.int .i64 a, .int .i64 b, .int .i64 d] 23)).alloc (.cells #[.bool false, .slice none 0 0, .bool false, .slice none 0 0, .slice none 0 0] 30)).alloc (.cells #[.bool false, .slice none 0 0, .bool false, .slice none 0 0, .slice none 0 0] 34)) := ⟨_, rfl⟩
  have b0_0 : W.cell? ⟨w.heap.size, 0, none⟩ = some (.int .i64 a) := by subst hW; go_simp
  have b0_1 : W.cell? ⟨w.heap.size, 1, none⟩ = some (.int .i64 b) := by subst hW; go_simp
  have b0_2 : W.cell? ⟨w.heap.size, 2, none⟩ = some (.int .i64 d) := by subst hW; go_simp
  have i_r1 : Var5 W (w.heap.size + 1) := by subst hW; exact ⟨by simp, ⟨false, .slice none 0 0, .bool false, .slice none 0 0, .slice none 0 0, by go_simp, by go_simp, by go_simp, by go_simp, by go_simp⟩, by go_simp, by go_simp, by go_simp, by go_simp, by go_simp⟩
  have i_r2 : Var5 W (w.heap.size + 1 + 1) := by subst hW; exact ⟨by simp, ⟨false, .slice none 0 0, .bool false, .slice none 0 0, .slice none 0 0, by go_simp, by go_simp, by go_simp, by go_simp, by go_simp⟩, by go_simp, by go_simp, by go_simp, by go_simp, by go_simp⟩
  have HW : Below w.heap.size w W := by subst hW; exact (((Below.refl _ _).alloc (Nat.le_refl _) _).alloc (by simp) _).alloc (by simp; omega) _
  have lb : w.heap.size + 1 + 1 < W.heap.size := by subst hW; simp <;> omega
  rw [← hW]
  clear hW
  refine (int_any 2 _ (by omega) (by omega)).mono ?_
  rintro e w1 ⟨A1, A2, A3, rfl, n1, hb⟩
  replace b0_0 := keepc hb b0_0 (by omega)
  replace b0_1 := keepc hb b0_1 (by omega)
  replace b0_2 := keepc hb b0_2 (by omega)
  replace i_r1 := i_r1.to hb
  replace i_r2 := i_r2.to hb
  replace HW := HW.trans (hb.mono HW.size)
  replace lb := Nat.lt_of_lt_of_le lb hb.size
  clear hb
  go_wp2_with fail
  refine (rwhole_any 2 _ (by omega) (by omega)).mono ?_
  rintro e w2 ⟨B1, B2, B3, c1, c2, c3, rfl, n2, hb⟩
  replace b0_0 := keepc hb b0_0 (by omega)
  replace b0_1 := keepc hb b0_1 (by omega)
  replace b0_2 := keepc hb b0_2 (by omega)
  replace i_r1 := i_r1.to hb
  replace i_r2 := i_r2.to hb
  replace n1 := n1.to hb
  replace HW := HW.trans (hb.mono HW.size)
  replace lb := Nat.lt_of_lt_of_le lb hb.size
  clear hb
  go_upto_region 3 with fail
  obtain ⟨X, hX⟩ : ∃ X : World, X = (w2.alloc (.cells #[.bool (sn (na (Cx.ofInt 2))), .slice A1 (ln (ab (na (Cx.ofInt 2)))) (ln (ab (na (Cx.ofInt 2)))), .bool (sn (nb (Cx.ofInt 2))), .slice A2 (ln (ab (nb (Cx.ofInt 2)))) (ln (ab (nb (Cx.ofInt 2)))), .slice A3 (ln (un (Cx.ofInt 2))) (ln (un (Cx.ofInt 2)))] 30)).alloc (.cells #[.bool (sn (na (Cx.ofInt 2))), .slice B1 (ln (ab (na (Cx.ofInt 2)))) c1, .bool (sn (nb (Cx.ofInt 2))), .slice B2 (ln (ab (nb (Cx.ofInt 2)))) c2, .slice B3 (ln (nd (Cx.ofInt 2))) c3] 34) := ⟨_, rfl⟩
  rw [← hX]
  have hb : Below w2.heap.size w2 X := by rw [hX]; exact ((Below.refl _ _).alloc (Nat.le_refl _) _).alloc (by simp) _
  have i_t : HasP X w2.heap.size (Cx.ofInt 2) := by subst hX; exact ⟨by simp <;> omega, ⟨A1, A2, A3, ⟨by go_simp, by go_simp, by go_simp, by go_simp, by go_simp⟩, (n1.1.alloc _).alloc _, (n1.2.1.alloc _).alloc _, (n1.2.2.alloc _).alloc _⟩, by go_simp, by go_simp, by go_simp, by go_simp, by go_simp⟩
  have i_p : HasR X (w2.heap.size + 1) (Cx.ofInt 2) := by subst hX; exact ⟨by simp, ⟨B1, B2, B3, c1, c2, c3, ⟨by go_simp, by go_simp, by go_simp, by go_simp, by go_simp⟩, (n2.1.alloc _).alloc _, (n2.2.1.alloc _).alloc _, (n2.2.2.alloc _).alloc _⟩, by go_simp, by go_simp, by go_simp, by go_simp, by go_simp⟩
  clear hX
  have lb2 := lb
  replace b0_0 := keepc hb b0_0 (by omega)
  replace b0_1 := keepc hb b0_1 (by omega)
  replace b0_2 := keepc hb b0_2 (by omega)
  replace i_r1 := i_r1.to hb
  replace i_r2 := i_r2.to hb
  replace n1 := n1.to hb
  replace n2 := n2.to hb
  replace HW := HW.trans (hb.mono HW.size)
  replace lb := Nat.lt_of_lt_of_le lb hb.size
  clear n1 n2 hb
  replace lb := lb2
  clear lb2
  have l7 : w2.heap.size + 1 < X.heap.size := i_p.1
  generalize w2.heap.size = g7 at *
  obtain ⟨t, ht⟩ : ∃ t, t = Cx.ofInt 2 := ⟨_, rfl⟩
  have zt : sz 2 t := by rw [ht]; exact sz_int (by show ln 2 ≤ 2; exact ln_le (by omega)) (by omega)
  rw [← ht] at i_t i_p
  clear ht
  go_upto_region 6 with fail
  rw [HWN.out]
  replace HW := Lib.hid HW
  obtain ⟨B0, hB0⟩ : ∃ B, B = X.heap.size := ⟨_, rfl⟩
  have l8 : g7 + 1 < B0 := by rw [hB0]; exact l7
  go_cut [9, 10] (fun p q wx => ∃ g9 g10, p = .pointer (some ⟨g9, 0, none⟩) ∧ q = .pointer (some ⟨g10, 0, none⟩) ∧ B0 ≤ g9 ∧ B0 ≤ g10 ∧ g9 ≠ g10 ∧ HasP wx g9 y ∧ HasR wx g10 y ∧ HasP wx g7 t ∧ HasR wx (g7 + 1) t ∧ Var5 wx (w.heap.size + 1) ∧ Var5 wx (w.heap.size + 1 + 1) ∧ Below w.heap.size w wx)
  case first =>
      refine wp_region_any (by kernel_rfl) ?_
      refine wpAny_inv (fun l a' w' => ∃ d0 q1 d2 q3 p4 p5 : Value, a' = ⟨#[Value.agg #[Value.int IntKind.i64 a, Value.int IntKind.i64 b, Value.int IntKind.i64 d], Value.int IntKind.i16 s, Value.pointer (some { block := w.heap.size, off := 0 }), undef, Value.pointer (some { block := w.heap.size + 1, off := 0 }), Value.pointer (some { block := w.heap.size + 1 + 1, off := 0 }), Value.int IntKind.i64 ↑m, Value.pointer (some { block := g7, off := 0 }), Value.pointer (some { block := g7 + 1, off := 0 }), p4, p5, Value.int IntKind.i16 s, Value.int IntKind.i64 s, Value.int IntKind.i64 ↑m, Value.agg #[Value.bool (sn (na (Cx.ofInt 2))), Value.slice A1 (ln (ab (na (Cx.ofInt 2)))) (ln (ab (na (Cx.ofInt 2)))), Value.bool (sn (nb (Cx.ofInt 2))), Value.slice A2 (ln (ab (nb (Cx.ofInt 2)))) (ln (ab (nb (Cx.ofInt 2)))), Value.slice A3 (ln (un (Cx.ofInt 2))) (ln (un (Cx.ofInt 2)))], Value.agg #[Value.bool (sn (na (Cx.ofInt 2))), Value.slice B1 (ln (ab (na (Cx.ofInt 2)))) c1, Value.bool (sn (nb (Cx.ofInt 2))), Value.slice B2 (ln (ab (nb (Cx.ofInt 2)))) c2, Value.slice B3 (ln (nd (Cx.ofInt 2))) c3], Value.int IntKind.i64 ↑m, Value.bool false, undef, undef, undef, undef, undef, undef, d0, q1, d2, q3, undef, undef, undef, undef, undef, undef, undef, undef, undef, undef, undef, undef, undef, undef, undef, undef, undef, undef, undef, undef, undef], []⟩ ∧ Below w.heap.size w w' ∧ w'.cell? ⟨w.heap.size, 0, none⟩ = some (.int .i64 a) ∧ w'.cell? ⟨w.heap.size, 1, none⟩ = some (.int .i64 b) ∧ w'.cell? ⟨w.heap.size, 2, none⟩ = some (.int .i64 d) ∧ B0 ≤ w'.heap.size ∧ (on l 0 = true → d0 = .agg #[.int .i64 a, .int .i64 b, .int .i64 d]) ∧ (on l 2 = true → d2 = .agg #[.int .i64 a, .int .i64 b, .int .i64 d]) ∧ (on l 1 = true → SlotNum w' q1 (y)) ∧ (on l 3 = true → SlotNumC w' q3 (y)) ∧ (on l 4 = true → AtV B0 w' p4) ∧ (on l 5 = true → AtV B0 w' p5) ∧ (on l 4 = true → on l 5 = true → p4 ≠ p5) ∧ HasP w' (g7) (t) ∧ HasR w' (g7 + 1) (t) ∧ Var5 w' (w.heap.size + 1) ∧ Var5 w' (w.heap.size + 1 + 1) ∧ (on l 6 = true → PtP w' p4 (y)) ∧ (on l 6 = true → on l 4 = true) ∧ (on l 7 = true → PtR w' p5 (y)) ∧ (on l 7 = true → on l 5 = true) ∧ l.size = 8) ?_ ?_ _ _ _ _ (by decide) ?_
      · intro l a' W' i hi hI
        obtain ⟨d0, q1, d2, q3, p4, p5, rfl, hB, b0_0, b0_1, b0_2, lB, hd0, hd2, hq1, hq3, hp4, hp5, hn4_5, hv_t, hv_p, hv_r1, hv_r2, hs6, ho6, hs7, ho7, hz⟩ := hI
        obtain ⟨hlt, hoff, hpre⟩ := ready_pre hi
        have hc : i = 0 ∨ i = 1 ∨ i = 2 ∨ i = 3 ∨ i = 4 ∨ i = 5 ∨ i = 6 ∨ i = 7 := by have : i < 8 := hlt; omega
        clear hi hlt
        rcases hc with rfl | rfl | rfl | rfl | rfl | rfl | rfl | rfl
        · have hp := hpre _ rfl
          simp [Region.binds] at hp
          clear hpre
          clear hp
          refine wpOp_go rfl rfl (fun K hK => ?_)
          go_simp
          refine hK _ _ ?_
          clear hK K
          exact ⟨_, _, _, _, _, _, rfl, hB, b0_0, b0_1, b0_2, lB, fun _ => rfl, fun h => (hd2 (on_ne h (by decide))), fun h => (hq1 (on_ne h (by decide))), fun h => (hq3 (on_ne h (by decide))), fun h => (hp4 (on_ne h (by decide))), fun h => (hp5 (on_ne h (by decide))), fun h h2 => hn4_5 (on_ne h (by decide)) (on_ne h2 (by decide)), hv_t, hv_p, hv_r1, hv_r2, fun h => (hs6 (on_ne h (by decide))), fun h => on_mono (ho6 (on_ne h (by decide))), fun h => (hs7 (on_ne h (by decide))), fun h => on_mono (ho7 (on_ne h (by decide))), by simp [hz]⟩
        · have hp := hpre _ rfl
          simp [Region.binds] at hp
          clear hpre
          have e0 : d0 = .agg #[.int .i64 a, .int .i64 b, .int .i64 d] := hd0 (by first | exact hp | exact hp.1 | exact hp.2 | simp [hp])
          subst e0
          clear hp
          refine wpOp_go rfl rfl (fun K hK => ?_)
          go_wp2_with (first | (go_at_call 58; refine (HO _).mono ?_; rintro e w1 ⟨A1, A2, A3, rfl, h1, hb⟩))
          try refine hK _ _ ?_
          exact ⟨_, _, _, _, _, _, rfl, hB.trans (hb.mono hB.size), keepc hb b0_0 (by omega), keepc hb b0_1 (by omega), keepc hb b0_2 (by omega), Nat.le_trans lB hb.size, fun h => rfl, fun h => hd2 (on_ne h (by decide)), fun _ => ⟨A1, A2, A3, rfl, h1⟩, fun h => (hq3 (on_ne h (by decide))).to hb, fun h => (hp4 (on_ne h (by decide))).to hb, fun h => (hp5 (on_ne h (by decide))).to hb, fun h h2 => hn4_5 (on_ne h (by decide)) (on_ne h2 (by decide)), hv_t.to hb, hv_p.to hb, hv_r1.to hb, hv_r2.to hb, fun h => (hs6 (on_ne h (by decide))).to hb, fun h => on_mono (ho6 (on_ne h (by decide))), fun h => (hs7 (on_ne h (by decide))).to hb, fun h => on_mono (ho7 (on_ne h (by decide))), by simp [hz]⟩
        · have hp := hpre _ rfl
          simp [Region.binds] at hp
          clear hpre
          clear hp
          refine wpOp_go rfl rfl (fun K hK => ?_)
          go_simp
          refine hK _ _ ?_
          clear hK K
          exact ⟨_, _, _, _, _, _, rfl, hB, b0_0, b0_1, b0_2, lB, fun h => (hd0 (on_ne h (by decide))), fun _ => rfl, fun h => (hq1 (on_ne h (by decide))), fun h => (hq3 (on_ne h (by decide))), fun h => (hp4 (on_ne h (by decide))), fun h => (hp5 (on_ne h (by decide))), fun h h2 => hn4_5 (on_ne h (by decide)) (on_ne h2 (by decide)), hv_t, hv_p, hv_r1, hv_r2, fun h => (hs6 (on_ne h (by decide))), fun h => on_mono (ho6 (on_ne h (by decide))), fun h => (hs7 (on_ne h (by decide))), fun h => on_mono (ho7 (on_ne h (by decide))), by simp [hz]⟩
        · have hp := hpre _ rfl
          simp [Region.binds] at hp
          clear hpre
          have e0 : d2 = .agg #[.int .i64 a, .int .i64 b, .int .i64 d] := hd2 (by first | exact hp | exact hp.1 | exact hp.2 | simp [hp])
          subst e0
          clear hp
          refine wpOp_go rfl rfl (fun K hK => ?_)
          go_wp2_with (first | (go_at_call 70; refine (HR _).mono ?_; rintro e w1 ⟨A1, A2, A3, k1, k2, k3, rfl, h1, hb⟩))
          try refine hK _ _ ?_
          exact ⟨_, _, _, _, _, _, rfl, hB.trans (hb.mono hB.size), keepc hb b0_0 (by omega), keepc hb b0_1 (by omega), keepc hb b0_2 (by omega), Nat.le_trans lB hb.size, fun h => hd0 (on_ne h (by decide)), fun h => rfl, fun h => (hq1 (on_ne h (by decide))).to hb, fun _ => ⟨A1, A2, A3, k1, k2, k3, rfl, h1⟩, fun h => (hp4 (on_ne h (by decide))).to hb, fun h => (hp5 (on_ne h (by decide))).to hb, fun h h2 => hn4_5 (on_ne h (by decide)) (on_ne h2 (by decide)), hv_t.to hb, hv_p.to hb, hv_r1.to hb, hv_r2.to hb, fun h => (hs6 (on_ne h (by decide))).to hb, fun h => on_mono (ho6 (on_ne h (by decide))), fun h => (hs7 (on_ne h (by decide))).to hb, fun h => on_mono (ho7 (on_ne h (by decide))), by simp [hz]⟩
        · have hp := hpre _ rfl
          simp [Region.binds] at hp
          clear hpre
          clear hp
          refine wpOp_go rfl rfl (fun K hK => ?_)
          go_simp
          refine hK _ _ ?_
          clear hK K
          have hb : Below W'.heap.size W' (W'.alloc (.cells #[.bool false, .slice none 0 0, .bool false, .slice none 0 0, .slice none 0 0] 30)) := (Below.refl _ _).alloc (Nat.le_refl _) _
          exact ⟨_, _, _, _, _, _, rfl, hB.trans (hb.mono hB.size), keepc hb b0_0 (by omega), keepc hb b0_1 (by omega), keepc hb b0_2 (by omega), Nat.le_trans lB hb.size, fun h => hd0 (on_ne h (by decide)), fun h => hd2 (on_ne h (by decide)), fun h => (hq1 (on_ne h (by decide))).to hb, fun h => (hq3 (on_ne h (by decide))).to hb, fun _ => AtV.new lB, fun h => (hp5 (on_ne h (by decide))).to hb, fun h h2 => Ne.symm (hp5 (on_ne h2 (by decide))).ne, hv_t.to hb, hv_p.to hb, hv_r1.to hb, hv_r2.to hb, fun h => absurd (ho6 (on_ne h (by decide))) (off hoff), fun h => absurd (ho6 (on_ne h (by decide))) (off hoff), fun h => (hs7 (on_ne h (by decide))).to hb, fun h => on_mono (ho7 (on_ne h (by decide))), by simp [hz]⟩
        · have hp := hpre _ rfl
          simp [Region.binds] at hp
          clear hpre
          clear hp
          refine wpOp_go rfl rfl (fun K hK => ?_)
          go_simp
          refine hK _ _ ?_
          clear hK K
          have hb : Below W'.heap.size W' (W'.alloc (.cells #[.bool false, .slice none 0 0, .bool false, .slice none 0 0, .slice none 0 0] 34)) := (Below.refl _ _).alloc (Nat.le_refl _) _
          exact ⟨_, _, _, _, _, _, rfl, hB.trans (hb.mono hB.size), keepc hb b0_0 (by omega), keepc hb b0_1 (by omega), keepc hb b0_2 (by omega), Nat.le_trans lB hb.size, fun h => hd0 (on_ne h (by decide)), fun h => hd2 (on_ne h (by decide)), fun h => (hq1 (on_ne h (by decide))).to hb, fun h => (hq3 (on_ne h (by decide))).to hb, fun h => (hp4 (on_ne h (by decide))).to hb, fun _ => AtV.new lB, fun h h2 => (hp4 (on_ne h (by decide))).ne, hv_t.to hb, hv_p.to hb, hv_r1.to hb, hv_r2.to hb, fun h => (hs6 (on_ne h (by decide))).to hb, fun h => on_mono (ho6 (on_ne h (by decide))), fun h => absurd (ho7 (on_ne h (by decide))) (off hoff), fun h => absurd (ho7 (on_ne h (by decide))) (off hoff), by simp [hz]⟩
        · have hp := hpre _ rfl
          simp [Region.binds] at hp
          clear hpre
          have hv := hp4 (by simp [hp])
          obtain ⟨g, e2, g1, hv2⟩ := hv
          have hv0 := hv2
          obtain ⟨g2, ⟨c, v1, v2, v3, v4, c0, c1, c2, c3, c4⟩, ⟨f0, f1, f2, f3, f4⟩⟩ := hv2
          obtain ⟨A1, A2, A3, e1, n1⟩ := hq1 (by simp [hp])
          subst e1; subst e2
          refine wpOp_go rfl rfl (fun K hK => ?_)
          go_simp
          refine hK _ _ ?_
          clear hK K
          obtain ⟨X, hX⟩ : ∃ X : World, X = set5 W' (g) (y) A1 A2 A3 := ⟨_, rfl⟩
          have hw : set5 W' (g) (y) A1 A2 A3 = X := hX.symm
          unfold set5 at hw
          rw [hw]
          clear hw
          subst hX
          exact ⟨_, _, _, _, _, _, rfl, set5_below hB (by omega), set5_cell b0_0 (by omega), set5_cell b0_1 (by omega), set5_cell b0_2 (by omega), by rw [set5_size]; exact lB, fun h => by first | exact hd0 (on_ne h (by decide)) | rfl, fun h => by first | exact hd2 (on_ne h (by decide)) | rfl, fun h => (hq1 (on_ne h (by decide))).set5 c0, fun h => (hq3 (on_ne h (by decide))).set5 c0, fun h => ⟨g, rfl, g1, set5_var hv0⟩, fun h => (hp5 (on_ne h (by decide))).set5 (Ne.symm (hn4_5 (by simp [hp]) (by simp [hp]))), fun h h2 => hn4_5 (on_ne h (by decide)) (on_ne h2 (by decide)), hv_t.set5 (by omega) c0, hv_p.set5 (by omega) c0, hv_r1.set5 (by omega), hv_r2.set5 (by omega), fun h => ⟨g, rfl, hv0.putP n1⟩, fun _ => on_mono (by simp [hp]), fun h => (hs7 (on_ne h (by decide))).set5 (Ne.symm (hn4_5 (by simp [hp]) (by simp [hp]))) c0, fun h => on_mono (ho7 (on_ne h (by decide))), by simp [hz]⟩
        · have hp := hpre _ rfl
          simp [Region.binds] at hp
          clear hpre
          have hv := hp5 (by simp [hp])
          obtain ⟨g, e2, g1, hv2⟩ := hv
          have hv0 := hv2
          obtain ⟨g2, ⟨c, v1, v2, v3, v4, c0, c1, c2, c3, c4⟩, ⟨f0, f1, f2, f3, f4⟩⟩ := hv2
          obtain ⟨A1, A2, A3, k1, k2, k3, e1, n1⟩ := hq3 (by simp [hp])
          subst e1; subst e2
          refine wpOp_go rfl rfl (fun K hK => ?_)
          go_simp
          refine hK _ _ ?_
          clear hK K
          obtain ⟨X, hX⟩ : ∃ X : World, X = set5c W' (g) (y) A1 A2 A3 k1 k2 k3 := ⟨_, rfl⟩
          have hw : set5c W' (g) (y) A1 A2 A3 k1 k2 k3 = X := hX.symm
          unfold set5c at hw
          rw [hw]
          clear hw
          subst hX
          exact ⟨_, _, _, _, _, _, rfl, set5c_below hB (by omega), set5c_cell b0_0 (by omega), set5c_cell b0_1 (by omega), set5c_cell b0_2 (by omega), by rw [set5c_size]; exact lB, fun h => by first | exact hd0 (on_ne h (by decide)) | rfl, fun h => by first | exact hd2 (on_ne h (by decide)) | rfl, fun h => (hq1 (on_ne h (by decide))).set5c c0, fun h => (hq3 (on_ne h (by decide))).set5c c0, fun h => (hp4 (on_ne h (by decide))).set5c (hn4_5 (by simp [hp]) (by simp [hp])), fun h => ⟨g, rfl, g1, set5c_var hv0⟩, fun h h2 => hn4_5 (on_ne h (by decide)) (on_ne h2 (by decide)), hv_t.set5c (by omega) c0, hv_p.set5c (by omega) c0, hv_r1.set5c (by omega), hv_r2.set5c (by omega), fun h => (hs6 (on_ne h (by decide))).set5c (hn4_5 (by simp [hp]) (by simp [hp])) c0, fun h => on_mono (ho6 (on_ne h (by decide))), fun h => ⟨g, rfl, hv0.putR n1⟩, fun _ => on_mono (by simp [hp]), by simp [hz]⟩
      · intro l a' W' hr hI
        obtain ⟨d0, q1, d2, q3, p4, p5, rfl, hB, b0_0, b0_1, b0_2, lB, hd0, hd2, hq1, hq3, hp4, hp5, hn4_5, hv_t, hv_p, hv_r1, hv_r2, hs6, ho6, hs7, ho7, hz⟩ := hI
        have a0 := not_ready (i := 0) hr hz rfl (by simp [Region.binds])
        have a1 := not_ready (i := 1) hr hz rfl (by simp [Region.binds, a0])
        have a2 := not_ready (i := 2) hr hz rfl (by simp [Region.binds, a0, a1])
        have a3 := not_ready (i := 3) hr hz rfl (by simp [Region.binds, a0, a1, a2])
        have a4 := not_ready (i := 4) hr hz rfl (by simp [Region.binds, a0, a1, a2, a3])
        have a5 := not_ready (i := 5) hr hz rfl (by simp [Region.binds, a0, a1, a2, a3, a4])
        have a6 := not_ready (i := 6) hr hz rfl (by simp [Region.binds, a0, a1, a2, a3, a4, a5])
        have a7 := not_ready (i := 7) hr hz rfl (by simp [Region.binds, a0, a1, a2, a3, a4, a5, a6])
        clear hr
        replace hs6 := hs6 a6
        replace hs7 := hs7 a7
        have j9 := hs6.at (hp4 a4)
        have j10 := hs7.at (hp5 a5)
        have hne := hn4_5 a4 a5
        clear hs6 hs7 hp4 hp5 hn4_5 hd0 hd2 hq1 hq3 ho6 ho7 hz
        obtain ⟨g9, e9, b9, v9⟩ := j9
        obtain ⟨g10, e10, b10, v10⟩ := j10
        subst e9; subst e10
        have hne2 : g9 ≠ g10 := by rintro rfl; exact hne rfl
        go_wp2_with fail
        go_meet
        exact ⟨g9, g10, rfl, rfl, b9, b10, hne2, v9, v10, hv_t, hv_p, hv_r1, hv_r2, hB⟩
      · exact ⟨_, _, _, _, _, _, rfl, ⟨HW.out.os, HW.out.tape, HW.out.output, HW.out.size, HW.out.block⟩, b0_0, b0_1, b0_2, by rw [hB0]; exact Nat.le_refl _, fun h => absurd h (by decide), fun h => absurd h (by decide), fun h => absurd h (by decide), fun h => absurd h (by decide), fun h => absurd h (by decide), fun h => absurd h (by decide), fun h _ => absurd h (by decide), i_t, i_p, i_r1, i_r2, fun h => absurd h (by decide), fun h => absurd h (by decide), fun h => absurd h (by decide), fun h => absurd h (by decide), by simp⟩
  case rest =>
    obtain ⟨g9, g10, e9, e10, b9, b10, h910, v9, v10, vt, vp, vr1, vr2, hB⟩ := hcut
    subst e9; subst e10
    clear HO HR i_t i_p i_r1 i_r2 b0_0 b0_1 b0_2 HW hB0 l7
    have HD : Hid (w.heap.size + 1 + 1 < g7 ∧ g7 + 1 < g9 ∧ g7 + 1 < g10 ∧ g9 ≠ g10) := Lib.hid ⟨lb, by omega, by omega, h910⟩
    clear lb l8 b9 b10 h910
    go_wp2_with fail
    go_loopg [6] m (fun k u wr => u = .int .i64 k ∧ Hid (k < 1200) ∧ ScIn w (w.heap.size + 1) (w.heap.size + 1 + 1) g7 (g7 + 1) g9 g10 k wr)
    case atStart => exact ⟨rfl, HM, t, y, 2, zt, zy, by have := HM.out; omega, by omega, vt, vp, v9, v10, vr1, vr2, hB⟩
    case round =>
      obtain ⟨rfl, hk, t', x', K, zt', zx', hK, hK2, vt', vp', vx, vy, vr1', vr2', hB'⟩ := hrel
      clear vt vp v9 v10 vr1 vr2 hB zt zy HM HWN t1
      have HK := Lib.hid (And.intro hK hK2)
      clear hK hK2
      by_cases hm0 : gk = 0
      · have t1 : decide (0 < gk) = false := by rw [hm0]; rfl
        clear hm0
        go_upto_region 12 with fail
        have i_x := vx; have i_t := vt'; have i_y := vy; have i_p := vp'; have i_r1 := vr1'; have i_r2 := vr2'
        clear vx vt' vy vp' vr1' vr2'
        have hd := HD.out
        obtain ⟨B0, hB0⟩ : ∃ B, B = 0 := ⟨_, rfl⟩
        refine wp_region_any (by kernel_rfl) ?_
        refine wpAny_inv (fun l a' w' => ∃ q0 q1 : Value, a' = ⟨#[Value.agg #[Value.int IntKind.i64 a, Value.int IntKind.i64 b, Value.int IntKind.i64 d], Value.int IntKind.i16 s, Value.pointer (some { block := w.heap.size, off := 0 }), undef, Value.pointer (some { block := w.heap.size + 1, off := 0 }), Value.pointer (some { block := w.heap.size + 1 + 1, off := 0 }), Value.int IntKind.i64 ↑gk, Value.pointer (some { block := g7, off := 0 }), Value.pointer (some { block := g7 + 1, off := 0 }), Value.pointer (some { block := g9, off := 0 }), Value.pointer (some { block := g10, off := 0 }), u11, u12, u13, u14, u15, u16, u17, u18, u19, u20, u21, u22, u23, u24, u25, u26, u27, Value.int IntKind.i64 ↑gk, Value.bool false, u30, u31, u32, u33, u34, u35, u36, u37, u38, u39, u40, u41, u42, u43, u44, u45, u46, q0, q1], []⟩ ∧ Below w.heap.size w w' ∧ B0 ≤ w'.heap.size ∧ (on l 0 = true → SlotNum w' q0 (x')) ∧ (on l 1 = true → SlotNumC w' q1 (x')) ∧ HasP w' (g9) (x') ∧ HasP w' (g7) (t') ∧ HasR w' (g10) (x') ∧ HasR w' (g7 + 1) (t') ∧ (¬ on l 2 = true → Var5 w' (w.heap.size + 1)) ∧ (on l 2 = true → HasP w' (w.heap.size + 1) (x')) ∧ Var5 w' (w.heap.size + 1) ∧ (¬ on l 3 = true → Var5 w' (w.heap.size + 1 + 1)) ∧ (on l 3 = true → HasR w' (w.heap.size + 1 + 1) (x')) ∧ Var5 w' (w.heap.size + 1 + 1) ∧ l.size = 4) ?_ ?_ _ _ _ _ (by decide) ?_
        · intro l a' W' i hi hI
          obtain ⟨q0, q1, rfl, hB, lB, hq0, hq1, hv_x, hv_t, hv_y, hv_p, hv_r1, hw_r1, hx_r1, hv_r2, hw_r2, hx_r2, hz⟩ := hI
          obtain ⟨hlt, hoff, hpre⟩ := ready_pre hi
          have hc : i = 0 ∨ i = 1 ∨ i = 2 ∨ i = 3 := by have : i < 4 := hlt; omega
          clear hi hlt
          rcases hc with rfl | rfl | rfl | rfl
          · have hp := hpre _ rfl
            simp [Region.binds] at hp
            clear hpre
            obtain ⟨A1, A2, A3, ⟨c0, c1, c2, c3, c4⟩, n1⟩ := hv_x.slot
            clear hp
            refine wpOp_go rfl rfl (fun K hK => ?_)
            go_simp
            refine hK _ _ ?_
            clear hK K
            exact ⟨_, _, rfl, hB, lB, fun _ => ⟨A1, A2, A3, rfl, n1⟩, fun h => (hq1 (on_ne h (by decide))), hv_x, hv_t, hv_y, hv_p, fun h => (hv_r1 (fun h2 => h (on_mono h2))), fun h => (hw_r1 (on_ne h (by decide))), hx_r1, fun h => (hv_r2 (fun h2 => h (on_mono h2))), fun h => (hw_r2 (on_ne h (by decide))), hx_r2, by simp [hz]⟩
          · have hp := hpre _ rfl
            simp [Region.binds] at hp
            clear hpre
            obtain ⟨A1, A2, A3, k1, k2, k3, ⟨c0, c1, c2, c3, c4⟩, n1⟩ := hv_y.slot
            clear hp
            refine wpOp_go rfl rfl (fun K hK => ?_)
            go_simp
            refine hK _ _ ?_
            clear hK K
            exact ⟨_, _, rfl, hB, lB, fun h => (hq0 (on_ne h (by decide))), fun _ => ⟨A1, A2, A3, k1, k2, k3, rfl, n1⟩, hv_x, hv_t, hv_y, hv_p, fun h => (hv_r1 (fun h2 => h (on_mono h2))), fun h => (hw_r1 (on_ne h (by decide))), hx_r1, fun h => (hv_r2 (fun h2 => h (on_mono h2))), fun h => (hw_r2 (on_ne h (by decide))), hx_r2, by simp [hz]⟩
          · have hp := hpre _ rfl
            simp [Region.binds] at hp
            clear hpre
            have hv2 := hx_r1
            have hv0 := hv2
            obtain ⟨g2, ⟨c, v1, v2, v3, v4, c0, c1, c2, c3, c4⟩, ⟨f0, f1, f2, f3, f4⟩⟩ := hv2
            obtain ⟨A1, A2, A3, e1, n1⟩ := hq0 (by simp [hp])
            subst e1
            refine wpOp_go rfl rfl (fun K hK => ?_)
            go_simp
            refine hK _ _ ?_
            clear hK K
            obtain ⟨X, hX⟩ : ∃ X : World, X = set5 W' (w.heap.size + 1) (x') A1 A2 A3 := ⟨_, rfl⟩
            have hw : set5 W' (w.heap.size + 1) (x') A1 A2 A3 = X := hX.symm
            unfold set5 at hw
            rw [hw]
            clear hw
            subst hX
            exact ⟨_, _, rfl, set5_below hB (by omega), by rw [set5_size]; exact lB, fun h => (hq0 (on_ne h (by decide))).set5 c0, fun h => (hq1 (on_ne h (by decide))).set5 c0, hv_x.set5 (by omega) c0, hv_t.set5 (by omega) c0, hv_y.set5 (by omega) c0, hv_p.set5 (by omega) c0, fun h => absurd (on_at (by omega)) h, fun h => hv0.putP n1, set5_var hv0, fun h => (hv_r2 (fun h2 => h (on_mono h2))).set5 (by omega), fun h => (hw_r2 (on_ne h (by decide))).set5 (by omega) c0, hx_r2.set5 (by omega), by simp [hz]⟩
          · have hp := hpre _ rfl
            simp [Region.binds] at hp
            clear hpre
            have hv2 := hx_r2
            have hv0 := hv2
            obtain ⟨g2, ⟨c, v1, v2, v3, v4, c0, c1, c2, c3, c4⟩, ⟨f0, f1, f2, f3, f4⟩⟩ := hv2
            obtain ⟨A1, A2, A3, k1, k2, k3, e1, n1⟩ := hq1 (by simp [hp])
            subst e1
            refine wpOp_go rfl rfl (fun K hK => ?_)
            go_simp
            refine hK _ _ ?_
            clear hK K
            obtain ⟨X, hX⟩ : ∃ X : World, X = set5c W' (w.heap.size + 1 + 1) (x') A1 A2 A3 k1 k2 k3 := ⟨_, rfl⟩
            have hw : set5c W' (w.heap.size + 1 + 1) (x') A1 A2 A3 k1 k2 k3 = X := hX.symm
            unfold set5c at hw
            rw [hw]
            clear hw
            subst hX
            exact ⟨_, _, rfl, set5c_below hB (by omega), by rw [set5c_size]; exact lB, fun h => (hq0 (on_ne h (by decide))).set5c c0, fun h => (hq1 (on_ne h (by decide))).set5c c0, hv_x.set5c (by omega) c0, hv_t.set5c (by omega) c0, hv_y.set5c (by omega) c0, hv_p.set5c (by omega) c0, fun h => (hv_r1 (fun h2 => h (on_mono h2))).set5c (by omega), fun h => (hw_r1 (on_ne h (by decide))).set5c (by omega) c0, hx_r1.set5c (by omega), fun h => absurd (on_at (by omega)) h, fun h => hv0.putR n1, set5c_var hv0, by simp [hz]⟩
        · intro l a' W' hr hI
          obtain ⟨q0, q1, rfl, hB, lB, hq0, hq1, hv_x, hv_t, hv_y, hv_p, hv_r1, hw_r1, hx_r1, hv_r2, hw_r2, hx_r2, hz⟩ := hI
          have a0 := not_ready (i := 0) hr hz rfl (by simp [Region.binds])
          have a1 := not_ready (i := 1) hr hz rfl (by simp [Region.binds, a0])
          have a2 := not_ready (i := 2) hr hz rfl (by simp [Region.binds, a0, a1])
          have a3 := not_ready (i := 3) hr hz rfl (by simp [Region.binds, a0, a1, a2])
          clear hr
          replace hw_r1 := hw_r1 a2
          replace hw_r2 := hw_r2 a3
          clear hv_r1 hv_r2 hx_r1 hx_r2 hq0 hq1 hz hv_x hv_y hv_t hv_p
          obtain ⟨_, ⟨A1, A2, A3, ⟨c0, c1, c2, c3, c4⟩, n1⟩, ⟨f0, f1, f2, f3, f4⟩⟩ := hw_r1
          obtain ⟨_, ⟨B1, B2, B3, k1, k2, k3, ⟨e0, e1, e2, e3, e4⟩, n2⟩, ⟨f0', f1', f2', f3', f4'⟩⟩ := hw_r2
          go_wp2_with fail
          exact bodyPost_ret (v := .tuple #[.agg #[.bool (sn (na x')), .slice A1 (ln (ab (na x'))) (ln (ab (na x'))), .bool (sn (nb x')), .slice A2 (ln (ab (nb x'))) (ln (ab (nb x'))), .slice A3 (ln (un x')) (ln (un x'))], .agg #[.bool (sn (na x')), .slice B1 (ln (ab (na x'))) k1, .bool (sn (nb x')), .slice B2 (ln (ab (nb x'))) k2, .slice B3 (ln (nd x')) k3]]) (by simp [results, Tryz.results12, go_sem, c0, c1, c2, c3, c4, e0, e1, e2, e3, e4]) rfl ⟨x', A1, A2, A3, B1, B2, B3, k1, k2, k3, zx'.mono HK.out.2, rfl, n1, n2, hB⟩
        · exact ⟨_, _, rfl, ⟨hB'.os, hB'.tape, hB'.output, hB'.size, hB'.block⟩, by omega, fun h => absurd h (by decide), fun h => absurd h (by decide), i_x, i_t, i_y, i_p, fun _ => i_r1, fun h => absurd h (by decide), i_r1, fun _ => i_r2, fun h => absurd h (by decide), i_r2, by simp⟩
      · have t1 : decide (0 < gk) = true := by simpa using (show 0 < gk by omega)
        have hst := sc_step HK.out.1 hm0
        have HST := Lib.hid hst
        have hg2 := hk.out
        by_cases ho : gk % 2 = 1
        · have t3 : ((gk : Int) % 2 == 1) = true := by rw [beq_iff_eq]; omega
          clear hst ho hg2
          go_upto_region 10 with fail
          have MU := fun A1 A2 A3 B1 B2 B3 (w : World) h1 h2 => mul_num x' t' A1 A2 A3 B1 B2 B3 w h1 h2 (zx'.mono (by have := HK.out.2; omega)) (zt'.mono (by have := HK.out.2; omega))
          have RM := fun A1 A2 A3 B1 B2 B3 (c1 c2 c3 d1 d2 d3 : Nat) (w : World) h1 h2 => rmul_any x' t' A1 A2 A3 B1 B2 B3 c1 c2 c3 d1 d2 d3 w h1 h2 (zx'.mono (by have := HK.out.2; omega)) (zt'.mono (by have := HK.out.2; omega))
          have i_x := vx; have i_t := vt'; have i_y := vy; have i_p := vp'; have i_r1 := vr1'; have i_r2 := vr2'
          clear vx vt' vy vp' vr1' vr2'
          have hd := HD.out
          obtain ⟨B0, hB0⟩ : ∃ B, B = 0 := ⟨_, rfl⟩
          go_cut [37] from 28 to 46 (fun p wx => HasP wx g9 (x'.mul t') ∧ HasR wx g10 (x'.mul t') ∧ HasP wx g7 t' ∧ HasR wx (g7 + 1) t' ∧ Var5 wx (w.heap.size + 1) ∧ Var5 wx (w.heap.size + 1 + 1) ∧ Below w.heap.size w wx)
          case first =>
            refine wp_region_any (by kernel_rfl) ?_
            refine wpAny_inv (fun l a' w' => ∃ q0 q1 q2 q3 q4 q5 : Value, a' = ⟨#[Value.agg #[Value.int IntKind.i64 a, Value.int IntKind.i64 b, Value.int IntKind.i64 d], Value.int IntKind.i16 s, Value.pointer (some { block := w.heap.size, off := 0 }), undef, Value.pointer (some { block := w.heap.size + 1, off := 0 }), Value.pointer (some { block := w.heap.size + 1 + 1, off := 0 }), Value.int IntKind.i64 ↑gk, Value.pointer (some { block := g7, off := 0 }), Value.pointer (some { block := g7 + 1, off := 0 }), Value.pointer (some { block := g9, off := 0 }), Value.pointer (some { block := g10, off := 0 }), u11, u12, u13, u14, u15, u16, u17, u18, u19, u20, u21, u22, u23, u24, u25, u26, u27, Value.int IntKind.i64 ↑gk, Value.bool true, u30, u31, Value.int IntKind.i64 ↑gk, Value.int IntKind.i64 (↑gk % 2), Value.bool true, q0, q1, q2, q3, q4, q5, u41, u42, u43, u44, u45, u46, u47, u48], []⟩ ∧ Below w.heap.size w w' ∧ B0 ≤ w'.heap.size ∧ (on l 0 = true → SlotNum w' q0 (x')) ∧ (on l 1 = true → SlotNum w' q1 (t')) ∧ (on l 2 = true → SlotNum w' q2 (x'.mul t')) ∧ (on l 3 = true → SlotNumC w' q3 (x')) ∧ (on l 4 = true → SlotNumC w' q4 (t')) ∧ (on l 5 = true → SlotNumC w' q5 (x'.mul t')) ∧ (¬ on l 6 = true → HasP w' (g9) (x')) ∧ (on l 6 = true → HasP w' (g9) (x'.mul t')) ∧ Var5 w' (g9) ∧ (on l 6 = true → on l 0 = true) ∧ HasP w' (g7) (t') ∧ (¬ on l 7 = true → HasR w' (g10) (x')) ∧ (on l 7 = true → HasR w' (g10) (x'.mul t')) ∧ Var5 w' (g10) ∧ (on l 7 = true → on l 3 = true) ∧ HasR w' (g7 + 1) (t') ∧ Var5 w' (w.heap.size + 1) ∧ Var5 w' (w.heap.size + 1 + 1) ∧ l.size = 8) ?_ ?_ _ _ _ _ (by decide) ?_
            · intro l a' W' i hi hI
              obtain ⟨q0, q1, q2, q3, q4, q5, rfl, hB, lB, hq0, hq1, hq2, hq3, hq4, hq5, hv_x, hw_x, hx_x, hl_x_0, hv_t, hv_y, hw_y, hx_y, hl_y_3, hv_p, hv_r1, hv_r2, hz⟩ := hI
              obtain ⟨hlt, hoff, hpre⟩ := ready_pre hi
              have hc : i = 0 ∨ i = 1 ∨ i = 2 ∨ i = 3 ∨ i = 4 ∨ i = 5 ∨ i = 6 ∨ i = 7 := by have : i < 8 := hlt; omega
              clear hi hlt
              rcases hc with rfl | rfl | rfl | rfl | rfl | rfl | rfl | rfl
              · have hp := hpre _ rfl
                simp [Region.binds] at hp
                clear hpre
                obtain ⟨A1, A2, A3, ⟨c0, c1, c2, c3, c4⟩, n1⟩ := (hv_x (fun h => off hoff (hl_x_0 h))).slot
                clear hp
                refine wpOp_go rfl rfl (fun K hK => ?_)
                go_simp
                refine hK _ _ ?_
                clear hK K
                exact ⟨_, _, _, _, _, _, rfl, hB, lB, fun _ => ⟨A1, A2, A3, rfl, n1⟩, fun h => (hq1 (on_ne h (by decide))), fun h => (hq2 (on_ne h (by decide))), fun h => (hq3 (on_ne h (by decide))), fun h => (hq4 (on_ne h (by decide))), fun h => (hq5 (on_ne h (by decide))), fun h => (hv_x (fun h2 => h (on_mono h2))), fun h => (hw_x (on_ne h (by decide))), hx_x, fun h => absurd (hl_x_0 (on_ne h (by decide))) (off hoff), hv_t, fun h => (hv_y (fun h2 => h (on_mono h2))), fun h => (hw_y (on_ne h (by decide))), hx_y, fun h => on_mono (hl_y_3 (on_ne h (by decide))), hv_p, hv_r1, hv_r2, by simp [hz]⟩
              · have hp := hpre _ rfl
                simp [Region.binds] at hp
                clear hpre
                obtain ⟨A1, A2, A3, ⟨c0, c1, c2, c3, c4⟩, n1⟩ := hv_t.slot
                clear hp
                refine wpOp_go rfl rfl (fun K hK => ?_)
                go_simp
                refine hK _ _ ?_
                clear hK K
                exact ⟨_, _, _, _, _, _, rfl, hB, lB, fun h => (hq0 (on_ne h (by decide))), fun _ => ⟨A1, A2, A3, rfl, n1⟩, fun h => (hq2 (on_ne h (by decide))), fun h => (hq3 (on_ne h (by decide))), fun h => (hq4 (on_ne h (by decide))), fun h => (hq5 (on_ne h (by decide))), fun h => (hv_x (fun h2 => h (on_mono h2))), fun h => (hw_x (on_ne h (by decide))), hx_x, fun h => on_mono (hl_x_0 (on_ne h (by decide))), hv_t, fun h => (hv_y (fun h2 => h (on_mono h2))), fun h => (hw_y (on_ne h (by decide))), hx_y, fun h => on_mono (hl_y_3 (on_ne h (by decide))), hv_p, hv_r1, hv_r2, by simp [hz]⟩
              · have hp := hpre _ rfl
                simp [Region.binds] at hp
                clear hpre
                obtain ⟨X1, X2, X3, e1, n1⟩ := hq0 (by simp [hp])
                obtain ⟨Y1, Y2, Y3, e2, n2⟩ := hq1 (by simp [hp])
                subst e1
                subst e2
                clear hp
                refine wpOp_go rfl rfl (fun K hK => ?_)
                go_wp2_with (first | (go_at_call 30; refine (MU X1 X2 X3 Y1 Y2 Y3 _ n1 n2).mono ?_; rintro e w1 ⟨A1, A2, A3, rfl, h1, hb⟩))
                try refine hK _ _ ?_
                exact ⟨_, _, _, _, _, _, rfl, hB.trans (hb.mono hB.size), Nat.le_trans lB hb.size, fun h => (hq0 (on_ne h (by decide))).to hb, fun h => (hq1 (on_ne h (by decide))).to hb, fun _ => ⟨A1, A2, A3, rfl, h1⟩, fun h => (hq3 (on_ne h (by decide))).to hb, fun h => (hq4 (on_ne h (by decide))).to hb, fun h => (hq5 (on_ne h (by decide))).to hb, fun h => (hv_x (fun h2 => h (on_mono h2))).to hb, fun h => (hw_x (on_ne h (by decide))).to hb, hx_x.to hb, fun h => on_mono (hl_x_0 (on_ne h (by decide))), hv_t.to hb, fun h => (hv_y (fun h2 => h (on_mono h2))).to hb, fun h => (hw_y (on_ne h (by decide))).to hb, hx_y.to hb, fun h => on_mono (hl_y_3 (on_ne h (by decide))), hv_p.to hb, hv_r1.to hb, hv_r2.to hb, by simp [hz]⟩
              · have hp := hpre _ rfl
                simp [Region.binds] at hp
                clear hpre
                obtain ⟨A1, A2, A3, k1, k2, k3, ⟨c0, c1, c2, c3, c4⟩, n1⟩ := (hv_y (fun h => off hoff (hl_y_3 h))).slot
                clear hp
                refine wpOp_go rfl rfl (fun K hK => ?_)
                go_simp
                refine hK _ _ ?_
                clear hK K
                exact ⟨_, _, _, _, _, _, rfl, hB, lB, fun h => (hq0 (on_ne h (by decide))), fun h => (hq1 (on_ne h (by decide))), fun h => (hq2 (on_ne h (by decide))), fun _ => ⟨A1, A2, A3, k1, k2, k3, rfl, n1⟩, fun h => (hq4 (on_ne h (by decide))), fun h => (hq5 (on_ne h (by decide))), fun h => (hv_x (fun h2 => h (on_mono h2))), fun h => (hw_x (on_ne h (by decide))), hx_x, fun h => on_mono (hl_x_0 (on_ne h (by decide))), hv_t, fun h => (hv_y (fun h2 => h (on_mono h2))), fun h => (hw_y (on_ne h (by decide))), hx_y, fun h => absurd (hl_y_3 (on_ne h (by decide))) (off hoff), hv_p, hv_r1, hv_r2, by simp [hz]⟩
              · have hp := hpre _ rfl
                simp [Region.binds] at hp
                clear hpre
                obtain ⟨A1, A2, A3, k1, k2, k3, ⟨c0, c1, c2, c3, c4⟩, n1⟩ := hv_p.slot
                clear hp
                refine wpOp_go rfl rfl (fun K hK => ?_)
                go_simp
                refine hK _ _ ?_
                clear hK K
                exact ⟨_, _, _, _, _, _, rfl, hB, lB, fun h => (hq0 (on_ne h (by decide))), fun h => (hq1 (on_ne h (by decide))), fun h => (hq2 (on_ne h (by decide))), fun h => (hq3 (on_ne h (by decide))), fun _ => ⟨A1, A2, A3, k1, k2, k3, rfl, n1⟩, fun h => (hq5 (on_ne h (by decide))), fun h => (hv_x (fun h2 => h (on_mono h2))), fun h => (hw_x (on_ne h (by decide))), hx_x, fun h => on_mono (hl_x_0 (on_ne h (by decide))), hv_t, fun h => (hv_y (fun h2 => h (on_mono h2))), fun h => (hw_y (on_ne h (by decide))), hx_y, fun h => on_mono (hl_y_3 (on_ne h (by decide))), hv_p, hv_r1, hv_r2, by simp [hz]⟩
              · have hp := hpre _ rfl
                simp [Region.binds] at hp
                clear hpre
                obtain ⟨X1, X2, X3, x1, x2, x3, e1, n1⟩ := hq3 (by simp [hp])
                obtain ⟨Y1, Y2, Y3, y1, y2, y3, e2, n2⟩ := hq4 (by simp [hp])
                subst e1
                subst e2
                clear hp
                refine wpOp_go rfl rfl (fun K hK => ?_)
                go_wp2_with (first | (go_at_call 31; refine (RM X1 X2 X3 Y1 Y2 Y3 x1 x2 x3 y1 y2 y3 _ n1 n2).mono ?_; rintro e w1 ⟨A1, A2, A3, k1, k2, k3, rfl, h1, hb⟩))
                try refine hK _ _ ?_
                exact ⟨_, _, _, _, _, _, rfl, hB.trans (hb.mono hB.size), Nat.le_trans lB hb.size, fun h => (hq0 (on_ne h (by decide))).to hb, fun h => (hq1 (on_ne h (by decide))).to hb, fun h => (hq2 (on_ne h (by decide))).to hb, fun h => (hq3 (on_ne h (by decide))).to hb, fun h => (hq4 (on_ne h (by decide))).to hb, fun _ => ⟨A1, A2, A3, k1, k2, k3, rfl, h1⟩, fun h => (hv_x (fun h2 => h (on_mono h2))).to hb, fun h => (hw_x (on_ne h (by decide))).to hb, hx_x.to hb, fun h => on_mono (hl_x_0 (on_ne h (by decide))), hv_t.to hb, fun h => (hv_y (fun h2 => h (on_mono h2))).to hb, fun h => (hw_y (on_ne h (by decide))).to hb, hx_y.to hb, fun h => on_mono (hl_y_3 (on_ne h (by decide))), hv_p.to hb, hv_r1.to hb, hv_r2.to hb, by simp [hz]⟩
              · have hp := hpre _ rfl
                simp [Region.binds] at hp
                clear hpre
                have hv2 := hx_x
                have hv0 := hv2
                obtain ⟨g2, ⟨c, v1, v2, v3, v4, c0, c1, c2, c3, c4⟩, ⟨f0, f1, f2, f3, f4⟩⟩ := hv2
                obtain ⟨A1, A2, A3, e1, n1⟩ := hq2 (by simp [hp])
                subst e1
                refine wpOp_go rfl rfl (fun K hK => ?_)
                go_simp
                refine hK _ _ ?_
                clear hK K
                obtain ⟨X, hX⟩ : ∃ X : World, X = set5 W' (g9) (x'.mul t') A1 A2 A3 := ⟨_, rfl⟩
                have hw : set5 W' (g9) (x'.mul t') A1 A2 A3 = X := hX.symm
                unfold set5 at hw
                rw [hw]
                clear hw
                subst hX
                exact ⟨_, _, _, _, _, _, rfl, set5_below hB (by omega), by rw [set5_size]; exact lB, fun h => (hq0 (on_ne h (by decide))).set5 c0, fun h => (hq1 (on_ne h (by decide))).set5 c0, fun h => (hq2 (on_ne h (by decide))).set5 c0, fun h => (hq3 (on_ne h (by decide))).set5 c0, fun h => (hq4 (on_ne h (by decide))).set5 c0, fun h => (hq5 (on_ne h (by decide))).set5 c0, fun h => absurd (on_at (by omega)) h, fun h => hv0.putP n1, set5_var hv0, fun _ => on_mono (by simp [hp]), hv_t.set5 (by omega) c0, fun h => (hv_y (fun h2 => h (on_mono h2))).set5 (by omega) c0, fun h => (hw_y (on_ne h (by decide))).set5 (by omega) c0, hx_y.set5 (by omega), fun h => on_mono (hl_y_3 (on_ne h (by decide))), hv_p.set5 (by omega) c0, hv_r1.set5 (by omega), hv_r2.set5 (by omega), by simp [hz]⟩
              · have hp := hpre _ rfl
                simp [Region.binds] at hp
                clear hpre
                have hv2 := hx_y
                have hv0 := hv2
                obtain ⟨g2, ⟨c, v1, v2, v3, v4, c0, c1, c2, c3, c4⟩, ⟨f0, f1, f2, f3, f4⟩⟩ := hv2
                obtain ⟨A1, A2, A3, k1, k2, k3, e1, n1⟩ := hq5 (by simp [hp])
                subst e1
                refine wpOp_go rfl rfl (fun K hK => ?_)
                go_simp
                refine hK _ _ ?_
                clear hK K
                obtain ⟨X, hX⟩ : ∃ X : World, X = set5c W' (g10) (x'.mul t') A1 A2 A3 k1 k2 k3 := ⟨_, rfl⟩
                have hw : set5c W' (g10) (x'.mul t') A1 A2 A3 k1 k2 k3 = X := hX.symm
                unfold set5c at hw
                rw [hw]
                clear hw
                subst hX
                exact ⟨_, _, _, _, _, _, rfl, set5c_below hB (by omega), by rw [set5c_size]; exact lB, fun h => (hq0 (on_ne h (by decide))).set5c c0, fun h => (hq1 (on_ne h (by decide))).set5c c0, fun h => (hq2 (on_ne h (by decide))).set5c c0, fun h => (hq3 (on_ne h (by decide))).set5c c0, fun h => (hq4 (on_ne h (by decide))).set5c c0, fun h => (hq5 (on_ne h (by decide))).set5c c0, fun h => (hv_x (fun h2 => h (on_mono h2))).set5c (by omega) c0, fun h => (hw_x (on_ne h (by decide))).set5c (by omega) c0, hx_x.set5c (by omega), fun h => on_mono (hl_x_0 (on_ne h (by decide))), hv_t.set5c (by omega) c0, fun h => absurd (on_at (by omega)) h, fun h => hv0.putR n1, set5c_var hv0, fun _ => on_mono (by simp [hp]), hv_p.set5c (by omega) c0, hv_r1.set5c (by omega), hv_r2.set5c (by omega), by simp [hz]⟩
            · intro l a' W' hr hI
              obtain ⟨q0, q1, q2, q3, q4, q5, rfl, hB, lB, hq0, hq1, hq2, hq3, hq4, hq5, hv_x, hw_x, hx_x, hl_x_0, hv_t, hv_y, hw_y, hx_y, hl_y_3, hv_p, hv_r1, hv_r2, hz⟩ := hI
              have a0 := not_ready (i := 0) hr hz rfl (by simp [Region.binds])
              have a1 := not_ready (i := 1) hr hz rfl (by simp [Region.binds, a0])
              have a2 := not_ready (i := 2) hr hz rfl (by simp [Region.binds, a0, a1])
              have a3 := not_ready (i := 3) hr hz rfl (by simp [Region.binds, a0, a1, a2])
              have a4 := not_ready (i := 4) hr hz rfl (by simp [Region.binds, a0, a1, a2, a3])
              have a5 := not_ready (i := 5) hr hz rfl (by simp [Region.binds, a0, a1, a2, a3, a4])
              have a6 := not_ready (i := 6) hr hz rfl (by simp [Region.binds, a0, a1, a2, a3, a4, a5])
              have a7 := not_ready (i := 7) hr hz rfl (by simp [Region.binds, a0, a1, a2, a3, a4, a5, a6])
              clear hr
              replace hw_x := hw_x a6
              replace hw_y := hw_y a7
              clear hv_x hv_y hx_x hx_y hl_x_0 hl_y_3 hq0 hq1 hq2 hq3 hq4 hq5 hz
              go_wp2_with fail
              go_meet
              exact ⟨hw_x, hw_y, hv_t, hv_p, hv_r1, hv_r2, hB⟩
            · exact ⟨_, _, _, _, _, _, rfl, ⟨hB'.os, hB'.tape, hB'.output, hB'.size, hB'.block⟩, by omega, fun h => absurd h (by decide), fun h => absurd h (by decide), fun h => absurd h (by decide), fun h => absurd h (by decide), fun h => absurd h (by decide), fun h => absurd h (by decide), fun _ => i_x, fun h => absurd h (by decide), i_x.var, fun h => absurd h (by decide), i_t, fun _ => i_y, fun h => absurd h (by decide), i_y.var, fun h => absurd h (by decide), i_p, i_r1, i_r2, by simp⟩
          case rest =>
            clear i_x i_t i_y i_p i_r1 i_r2 hB' hd hB0 MU RM
            obtain ⟨vx, vy, vt', vp', vr1', vr2', hB'⟩ := hcut
            go_upto_region 11 with fail
            have MU := fun A1 A2 A3 B1 B2 B3 (w : World) h1 h2 => mul_num t' t' A1 A2 A3 B1 B2 B3 w h1 h2 (zt'.mono (by have := HK.out.2; omega)) (zt'.mono (by have := HK.out.2; omega))
            have RM := fun A1 A2 A3 B1 B2 B3 (c1 c2 c3 d1 d2 d3 : Nat) (w : World) h1 h2 => rmul_any t' t' A1 A2 A3 B1 B2 B3 c1 c2 c3 d1 d2 d3 w h1 h2 (zt'.mono (by have := HK.out.2; omega)) (zt'.mono (by have := HK.out.2; omega))
            have i_x := vx; have i_t := vt'; have i_y := vy; have i_p := vp'; have i_r1 := vr1'; have i_r2 := vr2'
            clear vx vt' vy vp' vr1' vr2'
            have hd := HD.out
            obtain ⟨B0, hB0⟩ : ∃ B, B = 0 := ⟨_, rfl⟩
            refine wp_region_any (by kernel_rfl) ?_
            refine wpAny_inv (fun l a' w' => ∃ q0 q1 q2 q3 q4 q5 : Value, a' = ⟨#[Value.agg #[Value.int IntKind.i64 a, Value.int IntKind.i64 b, Value.int IntKind.i64 d], Value.int IntKind.i16 s, Value.pointer (some { block := w.heap.size, off := 0 }), undef, Value.pointer (some { block := w.heap.size + 1, off := 0 }), Value.pointer (some { block := w.heap.size + 1 + 1, off := 0 }), Value.int IntKind.i64 ↑gk, Value.pointer (some { block := g7, off := 0 }), Value.pointer (some { block := g7 + 1, off := 0 }), Value.pointer (some { block := g9, off := 0 }), Value.pointer (some { block := g10, off := 0 }), u11, u12, u13, u14, u15, u16, u17, u18, u19, u20, u21, u22, u23, u24, u25, u26, u27, u28, u29, u30, u31, u32, u33, u34, u35, u36, u37, u38, u39, u40, q0, q1, q2, q3, q4, q5, u47, u48], []⟩ ∧ Below w.heap.size w w' ∧ B0 ≤ w'.heap.size ∧ (on l 0 = true → SlotNum w' q0 (t')) ∧ (on l 1 = true → SlotNum w' q1 (t')) ∧ (on l 2 = true → SlotNum w' q2 (t'.mul t')) ∧ (on l 3 = true → SlotNumC w' q3 (t')) ∧ (on l 4 = true → SlotNumC w' q4 (t')) ∧ (on l 5 = true → SlotNumC w' q5 (t'.mul t')) ∧ HasP w' (g9) ((x'.mul t')) ∧ (¬ on l 6 = true → HasP w' (g7) (t')) ∧ (on l 6 = true → HasP w' (g7) (t'.mul t')) ∧ Var5 w' (g7) ∧ (on l 6 = true → on l 0 = true) ∧ (on l 6 = true → on l 1 = true) ∧ HasR w' (g10) ((x'.mul t')) ∧ (¬ on l 7 = true → HasR w' (g7 + 1) (t')) ∧ (on l 7 = true → HasR w' (g7 + 1) (t'.mul t')) ∧ Var5 w' (g7 + 1) ∧ (on l 7 = true → on l 3 = true) ∧ (on l 7 = true → on l 4 = true) ∧ Var5 w' (w.heap.size + 1) ∧ Var5 w' (w.heap.size + 1 + 1) ∧ l.size = 8) ?_ ?_ _ _ _ _ (by decide) ?_
            · intro l a' W' i hi hI
              obtain ⟨q0, q1, q2, q3, q4, q5, rfl, hB, lB, hq0, hq1, hq2, hq3, hq4, hq5, hv_x, hv_t, hw_t, hx_t, hl_t_0, hl_t_1, hv_y, hv_p, hw_p, hx_p, hl_p_3, hl_p_4, hv_r1, hv_r2, hz⟩ := hI
              obtain ⟨hlt, hoff, hpre⟩ := ready_pre hi
              have hc : i = 0 ∨ i = 1 ∨ i = 2 ∨ i = 3 ∨ i = 4 ∨ i = 5 ∨ i = 6 ∨ i = 7 := by have : i < 8 := hlt; omega
              clear hi hlt
              rcases hc with rfl | rfl | rfl | rfl | rfl | rfl | rfl | rfl
              · have hp := hpre _ rfl
                simp [Region.binds] at hp
                clear hpre
                obtain ⟨A1, A2, A3, ⟨c0, c1, c2, c3, c4⟩, n1⟩ := (hv_t (fun h => off hoff (hl_t_0 h))).slot
                clear hp
                refine wpOp_go rfl rfl (fun K hK => ?_)
                go_simp
                refine hK _ _ ?_
                clear hK K
                exact ⟨_, _, _, _, _, _, rfl, hB, lB, fun _ => ⟨A1, A2, A3, rfl, n1⟩, fun h => (hq1 (on_ne h (by decide))), fun h => (hq2 (on_ne h (by decide))), fun h => (hq3 (on_ne h (by decide))), fun h => (hq4 (on_ne h (by decide))), fun h => (hq5 (on_ne h (by decide))), hv_x, fun h => (hv_t (fun h2 => h (on_mono h2))), fun h => (hw_t (on_ne h (by decide))), hx_t, fun h => absurd (hl_t_0 (on_ne h (by decide))) (off hoff), fun h => on_mono (hl_t_1 (on_ne h (by decide))), hv_y, fun h => (hv_p (fun h2 => h (on_mono h2))), fun h => (hw_p (on_ne h (by decide))), hx_p, fun h => on_mono (hl_p_3 (on_ne h (by decide))), fun h => on_mono (hl_p_4 (on_ne h (by decide))), hv_r1, hv_r2, by simp [hz]⟩
              · have hp := hpre _ rfl
                simp [Region.binds] at hp
                clear hpre
                obtain ⟨A1, A2, A3, ⟨c0, c1, c2, c3, c4⟩, n1⟩ := (hv_t (fun h => off hoff (hl_t_1 h))).slot
                clear hp
                refine wpOp_go rfl rfl (fun K hK => ?_)
                go_simp
                refine hK _ _ ?_
                clear hK K
                exact ⟨_, _, _, _, _, _, rfl, hB, lB, fun h => (hq0 (on_ne h (by decide))), fun _ => ⟨A1, A2, A3, rfl, n1⟩, fun h => (hq2 (on_ne h (by decide))), fun h => (hq3 (on_ne h (by decide))), fun h => (hq4 (on_ne h (by decide))), fun h => (hq5 (on_ne h (by decide))), hv_x, fun h => (hv_t (fun h2 => h (on_mono h2))), fun h => (hw_t (on_ne h (by decide))), hx_t, fun h => on_mono (hl_t_0 (on_ne h (by decide))), fun h => absurd (hl_t_1 (on_ne h (by decide))) (off hoff), hv_y, fun h => (hv_p (fun h2 => h (on_mono h2))), fun h => (hw_p (on_ne h (by decide))), hx_p, fun h => on_mono (hl_p_3 (on_ne h (by decide))), fun h => on_mono (hl_p_4 (on_ne h (by decide))), hv_r1, hv_r2, by simp [hz]⟩
              · have hp := hpre _ rfl
                simp [Region.binds] at hp
                clear hpre
                obtain ⟨X1, X2, X3, e1, n1⟩ := hq0 (by simp [hp])
                obtain ⟨Y1, Y2, Y3, e2, n2⟩ := hq1 (by simp [hp])
                subst e1
                subst e2
                clear hp
                refine wpOp_go rfl rfl (fun K hK => ?_)
                go_wp2_with (first | (go_at_call 30; refine (MU X1 X2 X3 Y1 Y2 Y3 _ n1 n2).mono ?_; rintro e w1 ⟨A1, A2, A3, rfl, h1, hb⟩))
                try refine hK _ _ ?_
                exact ⟨_, _, _, _, _, _, rfl, hB.trans (hb.mono hB.size), Nat.le_trans lB hb.size, fun h => (hq0 (on_ne h (by decide))).to hb, fun h => (hq1 (on_ne h (by decide))).to hb, fun _ => ⟨A1, A2, A3, rfl, h1⟩, fun h => (hq3 (on_ne h (by decide))).to hb, fun h => (hq4 (on_ne h (by decide))).to hb, fun h => (hq5 (on_ne h (by decide))).to hb, hv_x.to hb, fun h => (hv_t (fun h2 => h (on_mono h2))).to hb, fun h => (hw_t (on_ne h (by decide))).to hb, hx_t.to hb, fun h => on_mono (hl_t_0 (on_ne h (by decide))), fun h => on_mono (hl_t_1 (on_ne h (by decide))), hv_y.to hb, fun h => (hv_p (fun h2 => h (on_mono h2))).to hb, fun h => (hw_p (on_ne h (by decide))).to hb, hx_p.to hb, fun h => on_mono (hl_p_3 (on_ne h (by decide))), fun h => on_mono (hl_p_4 (on_ne h (by decide))), hv_r1.to hb, hv_r2.to hb, by simp [hz]⟩
              · have hp := hpre _ rfl
                simp [Region.binds] at hp
                clear hpre
                obtain ⟨A1, A2, A3, k1, k2, k3, ⟨c0, c1, c2, c3, c4⟩, n1⟩ := (hv_p (fun h => off hoff (hl_p_3 h))).slot
                clear hp
                refine wpOp_go rfl rfl (fun K hK => ?_)
                go_simp
                refine hK _ _ ?_
                clear hK K
                exact ⟨_, _, _, _, _, _, rfl, hB, lB, fun h => (hq0 (on_ne h (by decide))), fun h => (hq1 (on_ne h (by decide))), fun h => (hq2 (on_ne h (by decide))), fun _ => ⟨A1, A2, A3, k1, k2, k3, rfl, n1⟩, fun h => (hq4 (on_ne h (by decide))), fun h => (hq5 (on_ne h (by decide))), hv_x, fun h => (hv_t (fun h2 => h (on_mono h2))), fun h => (hw_t (on_ne h (by decide))), hx_t, fun h => on_mono (hl_t_0 (on_ne h (by decide))), fun h => on_mono (hl_t_1 (on_ne h (by decide))), hv_y, fun h => (hv_p (fun h2 => h (on_mono h2))), fun h => (hw_p (on_ne h (by decide))), hx_p, fun h => absurd (hl_p_3 (on_ne h (by decide))) (off hoff), fun h => on_mono (hl_p_4 (on_ne h (by decide))), hv_r1, hv_r2, by simp [hz]⟩
              · have hp := hpre _ rfl
                simp [Region.binds] at hp
                clear hpre
                obtain ⟨A1, A2, A3, k1, k2, k3, ⟨c0, c1, c2, c3, c4⟩, n1⟩ := (hv_p (fun h => off hoff (hl_p_4 h))).slot
                clear hp
                refine wpOp_go rfl rfl (fun K hK => ?_)
                go_simp
                refine hK _ _ ?_
                clear hK K
                exact ⟨_, _, _, _, _, _, rfl, hB, lB, fun h => (hq0 (on_ne h (by decide))), fun h => (hq1 (on_ne h (by decide))), fun h => (hq2 (on_ne h (by decide))), fun h => (hq3 (on_ne h (by decide))), fun _ => ⟨A1, A2, A3, k1, k2, k3, rfl, n1⟩, fun h => (hq5 (on_ne h (by decide))), hv_x, fun h => (hv_t (fun h2 => h (on_mono h2))), fun h => (hw_t (on_ne h (by decide))), hx_t, fun h => on_mono (hl_t_0 (on_ne h (by decide))), fun h => on_mono (hl_t_1 (on_ne h (by decide))), hv_y, fun h => (hv_p (fun h2 => h (on_mono h2))), fun h => (hw_p (on_ne h (by decide))), hx_p, fun h => on_mono (hl_p_3 (on_ne h (by decide))), fun h => absurd (hl_p_4 (on_ne h (by decide))) (off hoff), hv_r1, hv_r2, by simp [hz]⟩
              · have hp := hpre _ rfl
                simp [Region.binds] at hp
                clear hpre
                obtain ⟨X1, X2, X3, x1, x2, x3, e1, n1⟩ := hq3 (by simp [hp])
                obtain ⟨Y1, Y2, Y3, y1, y2, y3, e2, n2⟩ := hq4 (by simp [hp])
                subst e1
                subst e2
                clear hp
                refine wpOp_go rfl rfl (fun K hK => ?_)
                go_wp2_with (first | (go_at_call 31; refine (RM X1 X2 X3 Y1 Y2 Y3 x1 x2 x3 y1 y2 y3 _ n1 n2).mono ?_; rintro e w1 ⟨A1, A2, A3, k1, k2, k3, rfl, h1, hb⟩))
                try refine hK _ _ ?_
                exact ⟨_, _, _, _, _, _, rfl, hB.trans (hb.mono hB.size), Nat.le_trans lB hb.size, fun h => (hq0 (on_ne h (by decide))).to hb, fun h => (hq1 (on_ne h (by decide))).to hb, fun h => (hq2 (on_ne h (by decide))).to hb, fun h => (hq3 (on_ne h (by decide))).to hb, fun h => (hq4 (on_ne h (by decide))).to hb, fun _ => ⟨A1, A2, A3, k1, k2, k3, rfl, h1⟩, hv_x.to hb, fun h => (hv_t (fun h2 => h (on_mono h2))).to hb, fun h => (hw_t (on_ne h (by decide))).to hb, hx_t.to hb, fun h => on_mono (hl_t_0 (on_ne h (by decide))), fun h => on_mono (hl_t_1 (on_ne h (by decide))), hv_y.to hb, fun h => (hv_p (fun h2 => h (on_mono h2))).to hb, fun h => (hw_p (on_ne h (by decide))).to hb, hx_p.to hb, fun h => on_mono (hl_p_3 (on_ne h (by decide))), fun h => on_mono (hl_p_4 (on_ne h (by decide))), hv_r1.to hb, hv_r2.to hb, by simp [hz]⟩
              · have hp := hpre _ rfl
                simp [Region.binds] at hp
                clear hpre
                have hv2 := hx_t
                have hv0 := hv2
                obtain ⟨g2, ⟨c, v1, v2, v3, v4, c0, c1, c2, c3, c4⟩, ⟨f0, f1, f2, f3, f4⟩⟩ := hv2
                obtain ⟨A1, A2, A3, e1, n1⟩ := hq2 (by simp [hp])
                subst e1
                refine wpOp_go rfl rfl (fun K hK => ?_)
                go_simp
                refine hK _ _ ?_
                clear hK K
                obtain ⟨X, hX⟩ : ∃ X : World, X = set5 W' (g7) (t'.mul t') A1 A2 A3 := ⟨_, rfl⟩
                have hw : set5 W' (g7) (t'.mul t') A1 A2 A3 = X := hX.symm
                unfold set5 at hw
                rw [hw]
                clear hw
                subst hX
                exact ⟨_, _, _, _, _, _, rfl, set5_below hB (by omega), by rw [set5_size]; exact lB, fun h => (hq0 (on_ne h (by decide))).set5 c0, fun h => (hq1 (on_ne h (by decide))).set5 c0, fun h => (hq2 (on_ne h (by decide))).set5 c0, fun h => (hq3 (on_ne h (by decide))).set5 c0, fun h => (hq4 (on_ne h (by decide))).set5 c0, fun h => (hq5 (on_ne h (by decide))).set5 c0, hv_x.set5 (by omega) c0, fun h => absurd (on_at (by omega)) h, fun h => hv0.putP n1, set5_var hv0, fun _ => on_mono (by simp [hp]), fun _ => on_mono (by simp [hp]), hv_y.set5 (by omega) c0, fun h => (hv_p (fun h2 => h (on_mono h2))).set5 (by omega) c0, fun h => (hw_p (on_ne h (by decide))).set5 (by omega) c0, hx_p.set5 (by omega), fun h => on_mono (hl_p_3 (on_ne h (by decide))), fun h => on_mono (hl_p_4 (on_ne h (by decide))), hv_r1.set5 (by omega), hv_r2.set5 (by omega), by simp [hz]⟩
              · have hp := hpre _ rfl
                simp [Region.binds] at hp
                clear hpre
                have hv2 := hx_p
                have hv0 := hv2
                obtain ⟨g2, ⟨c, v1, v2, v3, v4, c0, c1, c2, c3, c4⟩, ⟨f0, f1, f2, f3, f4⟩⟩ := hv2
                obtain ⟨A1, A2, A3, k1, k2, k3, e1, n1⟩ := hq5 (by simp [hp])
                subst e1
                refine wpOp_go rfl rfl (fun K hK => ?_)
                go_simp
                refine hK _ _ ?_
                clear hK K
                obtain ⟨X, hX⟩ : ∃ X : World, X = set5c W' (g7 + 1) (t'.mul t') A1 A2 A3 k1 k2 k3 := ⟨_, rfl⟩
                have hw : set5c W' (g7 + 1) (t'.mul t') A1 A2 A3 k1 k2 k3 = X := hX.symm
                unfold set5c at hw
                rw [hw]
                clear hw
                subst hX
                exact ⟨_, _, _, _, _, _, rfl, set5c_below hB (by omega), by rw [set5c_size]; exact lB, fun h => (hq0 (on_ne h (by decide))).set5c c0, fun h => (hq1 (on_ne h (by decide))).set5c c0, fun h => (hq2 (on_ne h (by decide))).set5c c0, fun h => (hq3 (on_ne h (by decide))).set5c c0, fun h => (hq4 (on_ne h (by decide))).set5c c0, fun h => (hq5 (on_ne h (by decide))).set5c c0, hv_x.set5c (by omega) c0, fun h => (hv_t (fun h2 => h (on_mono h2))).set5c (by omega) c0, fun h => (hw_t (on_ne h (by decide))).set5c (by omega) c0, hx_t.set5c (by omega), fun h => on_mono (hl_t_0 (on_ne h (by decide))), fun h => on_mono (hl_t_1 (on_ne h (by decide))), hv_y.set5c (by omega) c0, fun h => absurd (on_at (by omega)) h, fun h => hv0.putR n1, set5c_var hv0, fun _ => on_mono (by simp [hp]), fun _ => on_mono (by simp [hp]), hv_r1.set5c (by omega), hv_r2.set5c (by omega), by simp [hz]⟩
            · intro l a' W' hr hI
              obtain ⟨q0, q1, q2, q3, q4, q5, rfl, hB, lB, hq0, hq1, hq2, hq3, hq4, hq5, hv_x, hv_t, hw_t, hx_t, hl_t_0, hl_t_1, hv_y, hv_p, hw_p, hx_p, hl_p_3, hl_p_4, hv_r1, hv_r2, hz⟩ := hI
              have a0 := not_ready (i := 0) hr hz rfl (by simp [Region.binds])
              have a1 := not_ready (i := 1) hr hz rfl (by simp [Region.binds, a0])
              have a2 := not_ready (i := 2) hr hz rfl (by simp [Region.binds, a0, a1])
              have a3 := not_ready (i := 3) hr hz rfl (by simp [Region.binds, a0, a1, a2])
              have a4 := not_ready (i := 4) hr hz rfl (by simp [Region.binds, a0, a1, a2, a3])
              have a5 := not_ready (i := 5) hr hz rfl (by simp [Region.binds, a0, a1, a2, a3, a4])
              have a6 := not_ready (i := 6) hr hz rfl (by simp [Region.binds, a0, a1, a2, a3, a4, a5])
              have a7 := not_ready (i := 7) hr hz rfl (by simp [Region.binds, a0, a1, a2, a3, a4, a5, a6])
              clear hr
              replace hw_t := hw_t a6
              replace hw_p := hw_p a7
              clear hv_t hv_p hx_t hx_p hl_t_0 hl_t_1 hl_p_3 hl_p_4 hq0 hq1 hq2 hq3 hq4 hq5 hz
              go_wp2_with fail
              go_roundg (gk / 2)
              case measure => omega
              case rel => exact ⟨by rw [wrap_half hk.out], Lib.hid (by have := hk.out; omega), t'.mul t', (x'.mul t'), 2 * K + 1, sz_mul zt' zt', sz_mul zx' zt', HST.out.1, HST.out.2, hw_t, hw_p, hv_x, hv_y, hv_r1, hv_r2, hB⟩
            · exact ⟨_, _, _, _, _, _, rfl, ⟨hB'.os, hB'.tape, hB'.output, hB'.size, hB'.block⟩, by omega, fun h => absurd h (by decide), fun h => absurd h (by decide), fun h => absurd h (by decide), fun h => absurd h (by decide), fun h => absurd h (by decide), fun h => absurd h (by decide), i_x, fun _ => i_t, fun h => absurd h (by decide), i_t.var, fun h => absurd h (by decide), fun h => absurd h (by decide), i_y, fun _ => i_p, fun h => absurd h (by decide), i_p.var, fun h => absurd h (by decide), fun h => absurd h (by decide), i_r1, i_r2, by simp⟩
        · have t3 : ((gk : Int) % 2 == 1) = false := by rw [beq_eq_false_iff_ne]; omega
          clear hst ho hg2
          go_upto_region 11 with fail
          have MU := fun A1 A2 A3 B1 B2 B3 (w : World) h1 h2 => mul_num t' t' A1 A2 A3 B1 B2 B3 w h1 h2 (zt'.mono (by have := HK.out.2; omega)) (zt'.mono (by have := HK.out.2; omega))
          have RM := fun A1 A2 A3 B1 B2 B3 (c1 c2 c3 d1 d2 d3 : Nat) (w : World) h1 h2 => rmul_any t' t' A1 A2 A3 B1 B2 B3 c1 c2 c3 d1 d2 d3 w h1 h2 (zt'.mono (by have := HK.out.2; omega)) (zt'.mono (by have := HK.out.2; omega))
          have i_x := vx; have i_t := vt'; have i_y := vy; have i_p := vp'; have i_r1 := vr1'; have i_r2 := vr2'
          clear vx vt' vy vp' vr1' vr2'
          have hd := HD.out
          obtain ⟨B0, hB0⟩ : ∃ B, B = 0 := ⟨_, rfl⟩
          refine wp_region_any (by kernel_rfl) ?_
          refine wpAny_inv (fun l a' w' => ∃ q0 q1 q2 q3 q4 q5 : Value, a' = ⟨#[Value.agg #[Value.int IntKind.i64 a, Value.int IntKind.i64 b, Value.int IntKind.i64 d], Value.int IntKind.i16 s, Value.pointer (some { block := w.heap.size, off := 0 }), undef, Value.pointer (some { block := w.heap.size + 1, off := 0 }), Value.pointer (some { block := w.heap.size + 1 + 1, off := 0 }), Value.int IntKind.i64 ↑gk, Value.pointer (some { block := g7, off := 0 }), Value.pointer (some { block := g7 + 1, off := 0 }), Value.pointer (some { block := g9, off := 0 }), Value.pointer (some { block := g10, off := 0 }), u11, u12, u13, u14, u15, u16, u17, u18, u19, u20, u21, u22, u23, u24, u25, u26, u27, Value.int IntKind.i64 ↑gk, Value.bool true, u30, u31, Value.int IntKind.i64 ↑gk, Value.int IntKind.i64 (↑gk % 2), Value.bool false, u35, u36, u37, u38, u39, u40, q0, q1, q2, q3, q4, q5, u47, u48], []⟩ ∧ Below w.heap.size w w' ∧ B0 ≤ w'.heap.size ∧ (on l 0 = true → SlotNum w' q0 (t')) ∧ (on l 1 = true → SlotNum w' q1 (t')) ∧ (on l 2 = true → SlotNum w' q2 (t'.mul t')) ∧ (on l 3 = true → SlotNumC w' q3 (t')) ∧ (on l 4 = true → SlotNumC w' q4 (t')) ∧ (on l 5 = true → SlotNumC w' q5 (t'.mul t')) ∧ HasP w' (g9) (x') ∧ (¬ on l 6 = true → HasP w' (g7) (t')) ∧ (on l 6 = true → HasP w' (g7) (t'.mul t')) ∧ Var5 w' (g7) ∧ (on l 6 = true → on l 0 = true) ∧ (on l 6 = true → on l 1 = true) ∧ HasR w' (g10) (x') ∧ (¬ on l 7 = true → HasR w' (g7 + 1) (t')) ∧ (on l 7 = true → HasR w' (g7 + 1) (t'.mul t')) ∧ Var5 w' (g7 + 1) ∧ (on l 7 = true → on l 3 = true) ∧ (on l 7 = true → on l 4 = true) ∧ Var5 w' (w.heap.size + 1) ∧ Var5 w' (w.heap.size + 1 + 1) ∧ l.size = 8) ?_ ?_ _ _ _ _ (by decide) ?_
          · intro l a' W' i hi hI
            obtain ⟨q0, q1, q2, q3, q4, q5, rfl, hB, lB, hq0, hq1, hq2, hq3, hq4, hq5, hv_x, hv_t, hw_t, hx_t, hl_t_0, hl_t_1, hv_y, hv_p, hw_p, hx_p, hl_p_3, hl_p_4, hv_r1, hv_r2, hz⟩ := hI
            obtain ⟨hlt, hoff, hpre⟩ := ready_pre hi
            have hc : i = 0 ∨ i = 1 ∨ i = 2 ∨ i = 3 ∨ i = 4 ∨ i = 5 ∨ i = 6 ∨ i = 7 := by have : i < 8 := hlt; omega
            clear hi hlt
            rcases hc with rfl | rfl | rfl | rfl | rfl | rfl | rfl | rfl
            · have hp := hpre _ rfl
              simp [Region.binds] at hp
              clear hpre
              obtain ⟨A1, A2, A3, ⟨c0, c1, c2, c3, c4⟩, n1⟩ := (hv_t (fun h => off hoff (hl_t_0 h))).slot
              clear hp
              refine wpOp_go rfl rfl (fun K hK => ?_)
              go_simp
              refine hK _ _ ?_
              clear hK K
              exact ⟨_, _, _, _, _, _, rfl, hB, lB, fun _ => ⟨A1, A2, A3, rfl, n1⟩, fun h => (hq1 (on_ne h (by decide))), fun h => (hq2 (on_ne h (by decide))), fun h => (hq3 (on_ne h (by decide))), fun h => (hq4 (on_ne h (by decide))), fun h => (hq5 (on_ne h (by decide))), hv_x, fun h => (hv_t (fun h2 => h (on_mono h2))), fun h => (hw_t (on_ne h (by decide))), hx_t, fun h => absurd (hl_t_0 (on_ne h (by decide))) (off hoff), fun h => on_mono (hl_t_1 (on_ne h (by decide))), hv_y, fun h => (hv_p (fun h2 => h (on_mono h2))), fun h => (hw_p (on_ne h (by decide))), hx_p, fun h => on_mono (hl_p_3 (on_ne h (by decide))), fun h => on_mono (hl_p_4 (on_ne h (by decide))), hv_r1, hv_r2, by simp [hz]⟩
            · have hp := hpre _ rfl
              simp [Region.binds] at hp
              clear hpre
              obtain ⟨A1, A2, A3, ⟨c0, c1, c2, c3, c4⟩, n1⟩ := (hv_t (fun h => off hoff (hl_t_1 h))).slot
              clear hp
              refine wpOp_go rfl rfl (fun K hK => ?_)
              go_simp
              refine hK _ _ ?_
              clear hK K
              exact ⟨_, _, _, _, _, _, rfl, hB, lB, fun h => (hq0 (on_ne h (by decide))), fun _ => ⟨A1, A2, A3, rfl, n1⟩, fun h => (hq2 (on_ne h (by decide))), fun h => (hq3 (on_ne h (by decide))), fun h => (hq4 (on_ne h (by decide))), fun h => (hq5 (on_ne h (by decide))), hv_x, fun h => (hv_t (fun h2 => h (on_mono h2))), fun h => (hw_t (on_ne h (by decide))), hx_t, fun h => on_mono (hl_t_0 (on_ne h (by decide))), fun h => absurd (hl_t_1 (on_ne h (by decide))) (off hoff), hv_y, fun h => (hv_p (fun h2 => h (on_mono h2))), fun h => (hw_p (on_ne h (by decide))), hx_p, fun h => on_mono (hl_p_3 (on_ne h (by decide))), fun h => on_mono (hl_p_4 (on_ne h (by decide))), hv_r1, hv_r2, by simp [hz]⟩
            · have hp := hpre _ rfl
              simp [Region.binds] at hp
              clear hpre
              obtain ⟨X1, X2, X3, e1, n1⟩ := hq0 (by simp [hp])
              obtain ⟨Y1, Y2, Y3, e2, n2⟩ := hq1 (by simp [hp])
              subst e1
              subst e2
              clear hp
              refine wpOp_go rfl rfl (fun K hK => ?_)
              go_wp2_with (first | (go_at_call 30; refine (MU X1 X2 X3 Y1 Y2 Y3 _ n1 n2).mono ?_; rintro e w1 ⟨A1, A2, A3, rfl, h1, hb⟩))
              try refine hK _ _ ?_
              exact ⟨_, _, _, _, _, _, rfl, hB.trans (hb.mono hB.size), Nat.le_trans lB hb.size, fun h => (hq0 (on_ne h (by decide))).to hb, fun h => (hq1 (on_ne h (by decide))).to hb, fun _ => ⟨A1, A2, A3, rfl, h1⟩, fun h => (hq3 (on_ne h (by decide))).to hb, fun h => (hq4 (on_ne h (by decide))).to hb, fun h => (hq5 (on_ne h (by decide))).to hb, hv_x.to hb, fun h => (hv_t (fun h2 => h (on_mono h2))).to hb, fun h => (hw_t (on_ne h (by decide))).to hb, hx_t.to hb, fun h => on_mono (hl_t_0 (on_ne h (by decide))), fun h => on_mono (hl_t_1 (on_ne h (by decide))), hv_y.to hb, fun h => (hv_p (fun h2 => h (on_mono h2))).to hb, fun h => (hw_p (on_ne h (by decide))).to hb, hx_p.to hb, fun h => on_mono (hl_p_3 (on_ne h (by decide))), fun h => on_mono (hl_p_4 (on_ne h (by decide))), hv_r1.to hb, hv_r2.to hb, by simp [hz]⟩
            · have hp := hpre _ rfl
              simp [Region.binds] at hp
              clear hpre
              obtain ⟨A1, A2, A3, k1, k2, k3, ⟨c0, c1, c2, c3, c4⟩, n1⟩ := (hv_p (fun h => off hoff (hl_p_3 h))).slot
              clear hp
              refine wpOp_go rfl rfl (fun K hK => ?_)
              go_simp
              refine hK _ _ ?_
              clear hK K
              exact ⟨_, _, _, _, _, _, rfl, hB, lB, fun h => (hq0 (on_ne h (by decide))), fun h => (hq1 (on_ne h (by decide))), fun h => (hq2 (on_ne h (by decide))), fun _ => ⟨A1, A2, A3, k1, k2, k3, rfl, n1⟩, fun h => (hq4 (on_ne h (by decide))), fun h => (hq5 (on_ne h (by decide))), hv_x, fun h => (hv_t (fun h2 => h (on_mono h2))), fun h => (hw_t (on_ne h (by decide))), hx_t, fun h => on_mono (hl_t_0 (on_ne h (by decide))), fun h => on_mono (hl_t_1 (on_ne h (by decide))), hv_y, fun h => (hv_p (fun h2 => h (on_mono h2))), fun h => (hw_p (on_ne h (by decide))), hx_p, fun h => absurd (hl_p_3 (on_ne h (by decide))) (off hoff), fun h => on_mono (hl_p_4 (on_ne h (by decide))), hv_r1, hv_r2, by simp [hz]⟩
            · have hp := hpre _ rfl
              simp [Region.binds] at hp
              clear hpre
              obtain ⟨A1, A2, A3, k1, k2, k3, ⟨c0, c1, c2, c3, c4⟩, n1⟩ := (hv_p (fun h => off hoff (hl_p_4 h))).slot
              clear hp
              refine wpOp_go rfl rfl (fun K hK => ?_)
              go_simp
              refine hK _ _ ?_
              clear hK K
              exact ⟨_, _, _, _, _, _, rfl, hB, lB, fun h => (hq0 (on_ne h (by decide))), fun h => (hq1 (on_ne h (by decide))), fun h => (hq2 (on_ne h (by decide))), fun h => (hq3 (on_ne h (by decide))), fun _ => ⟨A1, A2, A3, k1, k2, k3, rfl, n1⟩, fun h => (hq5 (on_ne h (by decide))), hv_x, fun h => (hv_t (fun h2 => h (on_mono h2))), fun h => (hw_t (on_ne h (by decide))), hx_t, fun h => on_mono (hl_t_0 (on_ne h (by decide))), fun h => on_mono (hl_t_1 (on_ne h (by decide))), hv_y, fun h => (hv_p (fun h2 => h (on_mono h2))), fun h => (hw_p (on_ne h (by decide))), hx_p, fun h => on_mono (hl_p_3 (on_ne h (by decide))), fun h => absurd (hl_p_4 (on_ne h (by decide))) (off hoff), hv_r1, hv_r2, by simp [hz]⟩
            · have hp := hpre _ rfl
              simp [Region.binds] at hp
              clear hpre
              obtain ⟨X1, X2, X3, x1, x2, x3, e1, n1⟩ := hq3 (by simp [hp])
              obtain ⟨Y1, Y2, Y3, y1, y2, y3, e2, n2⟩ := hq4 (by simp [hp])
              subst e1
              subst e2
              clear hp
              refine wpOp_go rfl rfl (fun K hK => ?_)
              go_wp2_with (first | (go_at_call 31; refine (RM X1 X2 X3 Y1 Y2 Y3 x1 x2 x3 y1 y2 y3 _ n1 n2).mono ?_; rintro e w1 ⟨A1, A2, A3, k1, k2, k3, rfl, h1, hb⟩))
              try refine hK _ _ ?_
              exact ⟨_, _, _, _, _, _, rfl, hB.trans (hb.mono hB.size), Nat.le_trans lB hb.size, fun h => (hq0 (on_ne h (by decide))).to hb, fun h => (hq1 (on_ne h (by decide))).to hb, fun h => (hq2 (on_ne h (by decide))).to hb, fun h => (hq3 (on_ne h (by decide))).to hb, fun h => (hq4 (on_ne h (by decide))).to hb, fun _ => ⟨A1, A2, A3, k1, k2, k3, rfl, h1⟩, hv_x.to hb, fun h => (hv_t (fun h2 => h (on_mono h2))).to hb, fun h => (hw_t (on_ne h (by decide))).to hb, hx_t.to hb, fun h => on_mono (hl_t_0 (on_ne h (by decide))), fun h => on_mono (hl_t_1 (on_ne h (by decide))), hv_y.to hb, fun h => (hv_p (fun h2 => h (on_mono h2))).to hb, fun h => (hw_p (on_ne h (by decide))).to hb, hx_p.to hb, fun h => on_mono (hl_p_3 (on_ne h (by decide))), fun h => on_mono (hl_p_4 (on_ne h (by decide))), hv_r1.to hb, hv_r2.to hb, by simp [hz]⟩
            · have hp := hpre _ rfl
              simp [Region.binds] at hp
              clear hpre
              have hv2 := hx_t
              have hv0 := hv2
              obtain ⟨g2, ⟨c, v1, v2, v3, v4, c0, c1, c2, c3, c4⟩, ⟨f0, f1, f2, f3, f4⟩⟩ := hv2
              obtain ⟨A1, A2, A3, e1, n1⟩ := hq2 (by simp [hp])
              subst e1
              refine wpOp_go rfl rfl (fun K hK => ?_)
              go_simp
              refine hK _ _ ?_
              clear hK K
              obtain ⟨X, hX⟩ : ∃ X : World, X = set5 W' (g7) (t'.mul t') A1 A2 A3 := ⟨_, rfl⟩
              have hw : set5 W' (g7) (t'.mul t') A1 A2 A3 = X := hX.symm
              unfold set5 at hw
              rw [hw]
              clear hw
              subst hX
              exact ⟨_, _, _, _, _, _, rfl, set5_below hB (by omega), by rw [set5_size]; exact lB, fun h => (hq0 (on_ne h (by decide))).set5 c0, fun h => (hq1 (on_ne h (by decide))).set5 c0, fun h => (hq2 (on_ne h (by decide))).set5 c0, fun h => (hq3 (on_ne h (by decide))).set5 c0, fun h => (hq4 (on_ne h (by decide))).set5 c0, fun h => (hq5 (on_ne h (by decide))).set5 c0, hv_x.set5 (by omega) c0, fun h => absurd (on_at (by omega)) h, fun h => hv0.putP n1, set5_var hv0, fun _ => on_mono (by simp [hp]), fun _ => on_mono (by simp [hp]), hv_y.set5 (by omega) c0, fun h => (hv_p (fun h2 => h (on_mono h2))).set5 (by omega) c0, fun h => (hw_p (on_ne h (by decide))).set5 (by omega) c0, hx_p.set5 (by omega), fun h => on_mono (hl_p_3 (on_ne h (by decide))), fun h => on_mono (hl_p_4 (on_ne h (by decide))), hv_r1.set5 (by omega), hv_r2.set5 (by omega), by simp [hz]⟩
            · have hp := hpre _ rfl
              simp [Region.binds] at hp
              clear hpre
              have hv2 := hx_p
              have hv0 := hv2
              obtain ⟨g2, ⟨c, v1, v2, v3, v4, c0, c1, c2, c3, c4⟩, ⟨f0, f1, f2, f3, f4⟩⟩ := hv2
              obtain ⟨A1, A2, A3, k1, k2, k3, e1, n1⟩ := hq5 (by simp [hp])
              subst e1
              refine wpOp_go rfl rfl (fun K hK => ?_)
              go_simp
              refine hK _ _ ?_
              clear hK K
              obtain ⟨X, hX⟩ : ∃ X : World, X = set5c W' (g7 + 1) (t'.mul t') A1 A2 A3 k1 k2 k3 := ⟨_, rfl⟩
              have hw : set5c W' (g7 + 1) (t'.mul t') A1 A2 A3 k1 k2 k3 = X := hX.symm
              unfold set5c at hw
              rw [hw]
              clear hw
              subst hX
              exact ⟨_, _, _, _, _, _, rfl, set5c_below hB (by omega), by rw [set5c_size]; exact lB, fun h => (hq0 (on_ne h (by decide))).set5c c0, fun h => (hq1 (on_ne h (by decide))).set5c c0, fun h => (hq2 (on_ne h (by decide))).set5c c0, fun h => (hq3 (on_ne h (by decide))).set5c c0, fun h => (hq4 (on_ne h (by decide))).set5c c0, fun h => (hq5 (on_ne h (by decide))).set5c c0, hv_x.set5c (by omega) c0, fun h => (hv_t (fun h2 => h (on_mono h2))).set5c (by omega) c0, fun h => (hw_t (on_ne h (by decide))).set5c (by omega) c0, hx_t.set5c (by omega), fun h => on_mono (hl_t_0 (on_ne h (by decide))), fun h => on_mono (hl_t_1 (on_ne h (by decide))), hv_y.set5c (by omega) c0, fun h => absurd (on_at (by omega)) h, fun h => hv0.putR n1, set5c_var hv0, fun _ => on_mono (by simp [hp]), fun _ => on_mono (by simp [hp]), hv_r1.set5c (by omega), hv_r2.set5c (by omega), by simp [hz]⟩
          · intro l a' W' hr hI
            obtain ⟨q0, q1, q2, q3, q4, q5, rfl, hB, lB, hq0, hq1, hq2, hq3, hq4, hq5, hv_x, hv_t, hw_t, hx_t, hl_t_0, hl_t_1, hv_y, hv_p, hw_p, hx_p, hl_p_3, hl_p_4, hv_r1, hv_r2, hz⟩ := hI
            have a0 := not_ready (i := 0) hr hz rfl (by simp [Region.binds])
            have a1 := not_ready (i := 1) hr hz rfl (by simp [Region.binds, a0])
            have a2 := not_ready (i := 2) hr hz rfl (by simp [Region.binds, a0, a1])
            have a3 := not_ready (i := 3) hr hz rfl (by simp [Region.binds, a0, a1, a2])
            have a4 := not_ready (i := 4) hr hz rfl (by simp [Region.binds, a0, a1, a2, a3])
            have a5 := not_ready (i := 5) hr hz rfl (by simp [Region.binds, a0, a1, a2, a3, a4])
            have a6 := not_ready (i := 6) hr hz rfl (by simp [Region.binds, a0, a1, a2, a3, a4, a5])
            have a7 := not_ready (i := 7) hr hz rfl (by simp [Region.binds, a0, a1, a2, a3, a4, a5, a6])
            clear hr
            replace hw_t := hw_t a6
            replace hw_p := hw_p a7
            clear hv_t hv_p hx_t hx_p hl_t_0 hl_t_1 hl_p_3 hl_p_4 hq0 hq1 hq2 hq3 hq4 hq5 hz
            go_wp2_with fail
            go_roundg (gk / 2)
            case measure => omega
            case rel => exact ⟨by rw [wrap_half hk.out], Lib.hid (by have := hk.out; omega), t'.mul t', x', 2 * K + 1, sz_mul zt' zt', zx'.mono (by omega), HST.out.1, HST.out.2, hw_t, hw_p, hv_x, hv_y, hv_r1, hv_r2, hB⟩
          · exact ⟨_, _, _, _, _, _, rfl, ⟨hB'.os, hB'.tape, hB'.output, hB'.size, hB'.block⟩, by omega, fun h => absurd h (by decide), fun h => absurd h (by decide), fun h => absurd h (by decide), fun h => absurd h (by decide), fun h => absurd h (by decide), fun h => absurd h (by decide), i_x, fun _ => i_t, fun h => absurd h (by decide), i_t.var, fun h => absurd h (by decide), fun h => absurd h (by decide), i_y, fun _ => i_p, fun h => absurd h (by decide), i_p.var, fun h => absurd h (by decide), fun h => absurd h (by decide), i_r1, i_r2, by simp⟩

set_option maxHeartbeats 4000000 in
theorem scaled_neg (y : Cx) (a b d s : Int) (w : World) (HO : ∀ w : World, Calls Tryz.prog 58 #[.agg #[.int .i64 a, .int .i64 b, .int .i64 d]] w (RetNum w y)) (HR : ∀ w : World, Calls Tryz.prog 70 #[.agg #[.int .i64 a, .int .i64 b, .int .i64 d]] w (RetNumC w y)) (zy : sz 2 y) (h1 : -32768 ≤ s) (h2 : s ≤ 32767) (n : Int) (hs : s.tmod 1200 = n) (h3 : -1200 < n) (h4 : n < 1200) (hn : n < 0) :
    Calls Tryz.prog 12 #[.agg #[.int .i64 a, .int .i64 b, .int .i64 d], .int .i16 s] w (RetTwo w 7200) := by
  obtain ⟨m, hm⟩ : ∃ m : Nat, m = (-n).toNat := ⟨_, rfl⟩
  have hm2 : m < 1200 := by omega
  have t1 : decide (n < 0) = true := by simpa using hn
  have hw : wrap64 (-n) = (m : Int) := by rw [hm]; exact wrap_negS h3 hn
  have HM := Lib.hid hm2
  have HWN := Lib.hid hw
  clear hm hm2 hw h3 h4 hn
  go_enter Tryz.func12, Tryz.ntmps12
  go_wp2_with fail
  obtain ⟨W, hW⟩ : ∃ W : World, W = (((w.alloc (.cells #[.int .i64 a, .int .i64 b, .int .i64 d] 23)).alloc (.cells #[.bool false, .slice none 0 0, .bool false, .slice none 0 0, .slice none 0 0] 30)).alloc (.cells #[.bool false, .slice none 0 0, .bool false, .slice none 0 0, .slice none 0 0] 34)) := ⟨_, rfl⟩
  have b0_0 : W.cell? ⟨w.heap.size, 0, none⟩ = some (.int .i64 a) := by subst hW; go_simp
  have b0_1 : W.cell? ⟨w.heap.size, 1, none⟩ = some (.int .i64 b) := by subst hW; go_simp
  have b0_2 : W.cell? ⟨w.heap.size, 2, none⟩ = some (.int .i64 d) := by subst hW; go_simp
  have i_r1 : Var5 W (w.heap.size + 1) := by subst hW; exact ⟨by simp, ⟨false, .slice none 0 0, .bool false, .slice none 0 0, .slice none 0 0, by go_simp, by go_simp, by go_simp, by go_simp, by go_simp⟩, by go_simp, by go_simp, by go_simp, by go_simp, by go_simp⟩
  have i_r2 : Var5 W (w.heap.size + 1 + 1) := by subst hW; exact ⟨by simp, ⟨false, .slice none 0 0, .bool false, .slice none 0 0, .slice none 0 0, by go_simp, by go_simp, by go_simp, by go_simp, by go_simp⟩, by go_simp, by go_simp, by go_simp, by go_simp, by go_simp⟩
  have HW : Below w.heap.size w W := by subst hW; exact (((Below.refl _ _).alloc (Nat.le_refl _) _).alloc (by simp) _).alloc (by simp; omega) _
  have lb : w.heap.size + 1 + 1 < W.heap.size := by subst hW; simp <;> omega
  rw [← hW]
  clear hW
  refine (int_any 2 _ (by omega) (by omega)).mono ?_
  rintro e w1 ⟨A1, A2, A3, rfl, n1, hb⟩
  replace b0_0 := keepc hb b0_0 (by omega)
  replace b0_1 := keepc hb b0_1 (by omega)
  replace b0_2 := keepc hb b0_2 (by omega)
  replace i_r1 := i_r1.to hb
  replace i_r2 := i_r2.to hb
  replace HW := HW.trans (hb.mono HW.size)
  replace lb := Nat.lt_of_lt_of_le lb hb.size
  clear hb
  go_wp2_with fail
  refine (rwhole_any 2 _ (by omega) (by omega)).mono ?_
  rintro e w2 ⟨B1, B2, B3, c1, c2, c3, rfl, n2, hb⟩
  replace b0_0 := keepc hb b0_0 (by omega)
  replace b0_1 := keepc hb b0_1 (by omega)
  replace b0_2 := keepc hb b0_2 (by omega)
  replace i_r1 := i_r1.to hb
  replace i_r2 := i_r2.to hb
  replace n1 := n1.to hb
  replace HW := HW.trans (hb.mono HW.size)
  replace lb := Nat.lt_of_lt_of_le lb hb.size
  clear hb
  go_upto_region 3 with fail
  obtain ⟨X, hX⟩ : ∃ X : World, X = (w2.alloc (.cells #[.bool (sn (na (Cx.ofInt 2))), .slice A1 (ln (ab (na (Cx.ofInt 2)))) (ln (ab (na (Cx.ofInt 2)))), .bool (sn (nb (Cx.ofInt 2))), .slice A2 (ln (ab (nb (Cx.ofInt 2)))) (ln (ab (nb (Cx.ofInt 2)))), .slice A3 (ln (un (Cx.ofInt 2))) (ln (un (Cx.ofInt 2)))] 30)).alloc (.cells #[.bool (sn (na (Cx.ofInt 2))), .slice B1 (ln (ab (na (Cx.ofInt 2)))) c1, .bool (sn (nb (Cx.ofInt 2))), .slice B2 (ln (ab (nb (Cx.ofInt 2)))) c2, .slice B3 (ln (nd (Cx.ofInt 2))) c3] 34) := ⟨_, rfl⟩
  rw [← hX]
  have hb : Below w2.heap.size w2 X := by rw [hX]; exact ((Below.refl _ _).alloc (Nat.le_refl _) _).alloc (by simp) _
  have i_t : HasP X w2.heap.size (Cx.ofInt 2) := by subst hX; exact ⟨by simp <;> omega, ⟨A1, A2, A3, ⟨by go_simp, by go_simp, by go_simp, by go_simp, by go_simp⟩, (n1.1.alloc _).alloc _, (n1.2.1.alloc _).alloc _, (n1.2.2.alloc _).alloc _⟩, by go_simp, by go_simp, by go_simp, by go_simp, by go_simp⟩
  have i_p : HasR X (w2.heap.size + 1) (Cx.ofInt 2) := by subst hX; exact ⟨by simp, ⟨B1, B2, B3, c1, c2, c3, ⟨by go_simp, by go_simp, by go_simp, by go_simp, by go_simp⟩, (n2.1.alloc _).alloc _, (n2.2.1.alloc _).alloc _, (n2.2.2.alloc _).alloc _⟩, by go_simp, by go_simp, by go_simp, by go_simp, by go_simp⟩
  clear hX
  have lb2 := lb
  replace b0_0 := keepc hb b0_0 (by omega)
  replace b0_1 := keepc hb b0_1 (by omega)
  replace b0_2 := keepc hb b0_2 (by omega)
  replace i_r1 := i_r1.to hb
  replace i_r2 := i_r2.to hb
  replace n1 := n1.to hb
  replace n2 := n2.to hb
  replace HW := HW.trans (hb.mono HW.size)
  replace lb := Nat.lt_of_lt_of_le lb hb.size
  clear n1 n2 hb
  replace lb := lb2
  clear lb2
  have l7 : w2.heap.size + 1 < X.heap.size := i_p.1
  generalize w2.heap.size = g7 at *
  obtain ⟨t, ht⟩ : ∃ t, t = Cx.ofInt 2 := ⟨_, rfl⟩
  have zt : sz 2 t := by rw [ht]; exact sz_int (by show ln 2 ≤ 2; exact ln_le (by omega)) (by omega)
  rw [← ht] at i_t i_p
  clear ht
  go_wp2_with fail
  refine (of_any 1 0 2 _ (by omega) (by omega) (by omega)).mono ?_
  rintro e w3 ⟨D1, D2, D3, rfl, n1, hb⟩
  replace b0_0 := keepc hb b0_0 (by omega)
  replace b0_1 := keepc hb b0_1 (by omega)
  replace b0_2 := keepc hb b0_2 (by omega)
  replace i_r1 := i_r1.to hb
  replace i_r2 := i_r2.to hb
  replace i_t := i_t.to hb
  replace i_p := i_p.to hb
  replace HW := HW.trans (hb.mono HW.size)
  replace l7 := Nat.lt_of_lt_of_le l7 hb.size
  clear hb
  go_wp2_with fail
  refine (rof_any 1 0 2 _ (by omega) (by omega) (by omega)).mono ?_
  rintro e w4 ⟨E1, E2, E3, kk1, kk2, kk3, rfl, n2, hb⟩
  replace b0_0 := keepc hb b0_0 (by omega)
  replace b0_1 := keepc hb b0_1 (by omega)
  replace b0_2 := keepc hb b0_2 (by omega)
  replace i_r1 := i_r1.to hb
  replace i_r2 := i_r2.to hb
  replace i_t := i_t.to hb
  replace i_p := i_p.to hb
  replace n1 := n1.to hb
  replace HW := HW.trans (hb.mono HW.size)
  replace l7 := Nat.lt_of_lt_of_le l7 hb.size
  clear hb
  have zh : sz 2 (ofv 1 0 2) := sz_of (by omega) (by omega) (by omega)
  generalize ofv 1 0 2 = v at *
  obtain ⟨k7, ⟨c, v1, v2, v3, v4, e0, e1, e2, e3, e4⟩, ⟨f0, f1, f2, f3, f4⟩⟩ := i_t.var
  obtain ⟨k8, ⟨c', v1', v2', v3', v4', e0', e1', e2', e3', e4'⟩, ⟨f0', f1', f2', f3', f4'⟩⟩ := i_p.var
  go_upto_region 6 with fail
  obtain ⟨Y, hY⟩ : ∃ Y : World, Y = set5c (set5 w4 g7 v D1 D2 D3) (g7 + 1) v E1 E2 E3 kk1 kk2 kk3 := ⟨_, rfl⟩
  have hw : set5c (set5 w4 g7 v D1 D2 D3) (g7 + 1) v E1 E2 E3 kk1 kk2 kk3 = Y := hY.symm
  unfold set5c set5 at hw
  rw [hw]
  clear hw
  have p1 := i_t.var.putP n1
  have q2 := set5_num3C (q := v) (A1 := D1) (A2 := D2) (A3 := D3) n2 e0
  have p2 := (i_p.var.set5 (q := v) (A1 := D1) (A2 := D2) (A3 := D3) (p := g7) (by omega)).putR (k1 := kk1) (k2 := kk2) (k3 := kk3) q2
  have e5 := set5_cell (q := v) (A1 := D1) (A2 := D2) (A3 := D3) e0' (show g7 + 1 ≠ g7 by omega)
  replace p1 := p1.set5c (q := v) (A1 := E1) (A2 := E2) (A3 := E3) (k1 := kk1) (k2 := kk2) (k3 := kk3) (p := g7 + 1) (by omega) e5
  clear i_t i_p k7 k8 e0 e1 e2 e3 e4 f0 f1 f2 f3 f4 e1' e2' e3' e4' f0' f1' f2' f3' f4' n1 n2 q2
  replace b0_0 := set5c_cell (k1 := kk1) (k2 := kk2) (k3 := kk3) (q := v) (A1 := E1) (A2 := E2) (A3 := E3) (p := g7 + 1) (set5_cell (q := v) (A1 := D1) (A2 := D2) (A3 := D3) (p := g7) b0_0 (by omega)) (by omega)
  rw [← hY] at b0_0
  replace b0_1 := set5c_cell (k1 := kk1) (k2 := kk2) (k3 := kk3) (q := v) (A1 := E1) (A2 := E2) (A3 := E3) (p := g7 + 1) (set5_cell (q := v) (A1 := D1) (A2 := D2) (A3 := D3) (p := g7) b0_1 (by omega)) (by omega)
  rw [← hY] at b0_1
  replace b0_2 := set5c_cell (k1 := kk1) (k2 := kk2) (k3 := kk3) (q := v) (A1 := E1) (A2 := E2) (A3 := E3) (p := g7 + 1) (set5_cell (q := v) (A1 := D1) (A2 := D2) (A3 := D3) (p := g7) b0_2 (by omega)) (by omega)
  rw [← hY] at b0_2
  replace i_r1 := (i_r1.set5 (q := v) (A1 := D1) (A2 := D2) (A3 := D3) (p := g7) (by omega)).set5c (k1 := kk1) (k2 := kk2) (k3 := kk3) (q := v) (A1 := E1) (A2 := E2) (A3 := E3) (p := g7 + 1) (by omega)
  rw [← hY] at i_r1
  replace i_r2 := (i_r2.set5 (q := v) (A1 := D1) (A2 := D2) (A3 := D3) (p := g7) (by omega)).set5c (k1 := kk1) (k2 := kk2) (k3 := kk3) (q := v) (A1 := E1) (A2 := E2) (A3 := E3) (p := g7 + 1) (by omega)
  rw [← hY] at i_r2
  replace HW := set5c_below (k1 := kk1) (k2 := kk2) (k3 := kk3) (q := v) (A1 := E1) (A2 := E2) (A3 := E3) (p := g7 + 1) (set5_below (q := v) (A1 := D1) (A2 := D2) (A3 := D3) (p := g7) HW (by omega)) (by omega)
  rw [← hY] at HW
  replace l7 : g7 + 1 < Y.heap.size := by rw [hY, set5c_size, set5_size]; exact l7
  rw [← hY] at p1 p2
  clear hY e0' e5 zt
  have i_t := p1
  have i_p := p2
  clear p1 p2
  have zt := zh
  clear zh
  generalize v = t at *
  rw [HWN.out]
  replace HW := Lib.hid HW
  obtain ⟨B0, hB0⟩ : ∃ B, B = Y.heap.size := ⟨_, rfl⟩
  have l8 : g7 + 1 < B0 := by rw [hB0]; exact l7
  go_cut [9, 10] (fun p q wx => ∃ g9 g10, p = .pointer (some ⟨g9, 0, none⟩) ∧ q = .pointer (some ⟨g10, 0, none⟩) ∧ B0 ≤ g9 ∧ B0 ≤ g10 ∧ g9 ≠ g10 ∧ HasP wx g9 y ∧ HasR wx g10 y ∧ HasP wx g7 t ∧ HasR wx (g7 + 1) t ∧ Var5 wx (w.heap.size + 1) ∧ Var5 wx (w.heap.size + 1 + 1) ∧ Below w.heap.size w wx)
  case first =>
      refine wp_region_any (by kernel_rfl) ?_
      refine wpAny_inv (fun l a' w' => ∃ d0 q1 d2 q3 p4 p5 : Value, a' = ⟨#[Value.agg #[Value.int IntKind.i64 a, Value.int IntKind.i64 b, Value.int IntKind.i64 d], Value.int IntKind.i16 s, Value.pointer (some { block := w.heap.size, off := 0 }), undef, Value.pointer (some { block := w.heap.size + 1, off := 0 }), Value.pointer (some { block := w.heap.size + 1 + 1, off := 0 }), Value.int IntKind.i64 ↑m, Value.pointer (some { block := g7, off := 0 }), Value.pointer (some { block := g7 + 1, off := 0 }), p4, p5, Value.int IntKind.i16 s, Value.int IntKind.i64 s, Value.int IntKind.i64 n, Value.agg #[Value.bool (sn (na (Cx.ofInt 2))), Value.slice A1 (ln (ab (na (Cx.ofInt 2)))) (ln (ab (na (Cx.ofInt 2)))), Value.bool (sn (nb (Cx.ofInt 2))), Value.slice A2 (ln (ab (nb (Cx.ofInt 2)))) (ln (ab (nb (Cx.ofInt 2)))), Value.slice A3 (ln (un (Cx.ofInt 2))) (ln (un (Cx.ofInt 2)))], Value.agg #[Value.bool (sn (na (Cx.ofInt 2))), Value.slice B1 (ln (ab (na (Cx.ofInt 2)))) c1, Value.bool (sn (nb (Cx.ofInt 2))), Value.slice B2 (ln (ab (nb (Cx.ofInt 2)))) c2, Value.slice B3 (ln (nd (Cx.ofInt 2))) c3], Value.int IntKind.i64 n, Value.bool true, Value.int IntKind.i64 n, Value.int IntKind.i64 ↑m, Value.agg #[Value.int IntKind.i64 1, Value.int IntKind.i64 0, Value.int IntKind.i64 2], Value.agg #[Value.bool (sn (na t)), Value.slice D1 (ln (ab (na t))) (ln (ab (na t))), Value.bool (sn (nb t)), Value.slice D2 (ln (ab (nb t))) (ln (ab (nb t))), Value.slice D3 (ln (un t)) (ln (un t))], Value.agg #[Value.int IntKind.i64 1, Value.int IntKind.i64 0, Value.int IntKind.i64 2], Value.agg #[Value.bool (sn (na t)), Value.slice E1 (ln (ab (na t))) kk1, Value.bool (sn (nb t)), Value.slice E2 (ln (ab (nb t))) kk2, Value.slice E3 (ln (nd t)) kk3], d0, q1, d2, q3, undef, undef, undef, undef, undef, undef, undef, undef, undef, undef, undef, undef, undef, undef, undef, undef, undef, undef, undef, undef, undef], []⟩ ∧ Below w.heap.size w w' ∧ w'.cell? ⟨w.heap.size, 0, none⟩ = some (.int .i64 a) ∧ w'.cell? ⟨w.heap.size, 1, none⟩ = some (.int .i64 b) ∧ w'.cell? ⟨w.heap.size, 2, none⟩ = some (.int .i64 d) ∧ B0 ≤ w'.heap.size ∧ (on l 0 = true → d0 = .agg #[.int .i64 a, .int .i64 b, .int .i64 d]) ∧ (on l 2 = true → d2 = .agg #[.int .i64 a, .int .i64 b, .int .i64 d]) ∧ (on l 1 = true → SlotNum w' q1 (y)) ∧ (on l 3 = true → SlotNumC w' q3 (y)) ∧ (on l 4 = true → AtV B0 w' p4) ∧ (on l 5 = true → AtV B0 w' p5) ∧ (on l 4 = true → on l 5 = true → p4 ≠ p5) ∧ HasP w' (g7) (t) ∧ HasR w' (g7 + 1) (t) ∧ Var5 w' (w.heap.size + 1) ∧ Var5 w' (w.heap.size + 1 + 1) ∧ (on l 6 = true → PtP w' p4 (y)) ∧ (on l 6 = true → on l 4 = true) ∧ (on l 7 = true → PtR w' p5 (y)) ∧ (on l 7 = true → on l 5 = true) ∧ l.size = 8) ?_ ?_ _ _ _ _ (by decide) ?_
      · intro l a' W' i hi hI
        obtain ⟨d0, q1, d2, q3, p4, p5, rfl, hB, b0_0, b0_1, b0_2, lB, hd0, hd2, hq1, hq3, hp4, hp5, hn4_5, hv_t, hv_p, hv_r1, hv_r2, hs6, ho6, hs7, ho7, hz⟩ := hI
        obtain ⟨hlt, hoff, hpre⟩ := ready_pre hi
        have hc : i = 0 ∨ i = 1 ∨ i = 2 ∨ i = 3 ∨ i = 4 ∨ i = 5 ∨ i = 6 ∨ i = 7 := by have : i < 8 := hlt; omega
        clear hi hlt
        rcases hc with rfl | rfl | rfl | rfl | rfl | rfl | rfl | rfl
        · have hp := hpre _ rfl
          simp [Region.binds] at hp
          clear hpre
          clear hp
          refine wpOp_go rfl rfl (fun K hK => ?_)
          go_simp
          refine hK _ _ ?_
          clear hK K
          exact ⟨_, _, _, _, _, _, rfl, hB, b0_0, b0_1, b0_2, lB, fun _ => rfl, fun h => (hd2 (on_ne h (by decide))), fun h => (hq1 (on_ne h (by decide))), fun h => (hq3 (on_ne h (by decide))), fun h => (hp4 (on_ne h (by decide))), fun h => (hp5 (on_ne h (by decide))), fun h h2 => hn4_5 (on_ne h (by decide)) (on_ne h2 (by decide)), hv_t, hv_p, hv_r1, hv_r2, fun h => (hs6 (on_ne h (by decide))), fun h => on_mono (ho6 (on_ne h (by decide))), fun h => (hs7 (on_ne h (by decide))), fun h => on_mono (ho7 (on_ne h (by decide))), by simp [hz]⟩
        · have hp := hpre _ rfl
          simp [Region.binds] at hp
          clear hpre
          have e0 : d0 = .agg #[.int .i64 a, .int .i64 b, .int .i64 d] := hd0 (by first | exact hp | exact hp.1 | exact hp.2 | simp [hp])
          subst e0
          clear hp
          refine wpOp_go rfl rfl (fun K hK => ?_)
          go_wp2_with (first | (go_at_call 58; refine (HO _).mono ?_; rintro e w1 ⟨A1, A2, A3, rfl, h1, hb⟩))
          try refine hK _ _ ?_
          exact ⟨_, _, _, _, _, _, rfl, hB.trans (hb.mono hB.size), keepc hb b0_0 (by omega), keepc hb b0_1 (by omega), keepc hb b0_2 (by omega), Nat.le_trans lB hb.size, fun h => rfl, fun h => hd2 (on_ne h (by decide)), fun _ => ⟨A1, A2, A3, rfl, h1⟩, fun h => (hq3 (on_ne h (by decide))).to hb, fun h => (hp4 (on_ne h (by decide))).to hb, fun h => (hp5 (on_ne h (by decide))).to hb, fun h h2 => hn4_5 (on_ne h (by decide)) (on_ne h2 (by decide)), hv_t.to hb, hv_p.to hb, hv_r1.to hb, hv_r2.to hb, fun h => (hs6 (on_ne h (by decide))).to hb, fun h => on_mono (ho6 (on_ne h (by decide))), fun h => (hs7 (on_ne h (by decide))).to hb, fun h => on_mono (ho7 (on_ne h (by decide))), by simp [hz]⟩
        · have hp := hpre _ rfl
          simp [Region.binds] at hp
          clear hpre
          clear hp
          refine wpOp_go rfl rfl (fun K hK => ?_)
          go_simp
          refine hK _ _ ?_
          clear hK K
          exact ⟨_, _, _, _, _, _, rfl, hB, b0_0, b0_1, b0_2, lB, fun h => (hd0 (on_ne h (by decide))), fun _ => rfl, fun h => (hq1 (on_ne h (by decide))), fun h => (hq3 (on_ne h (by decide))), fun h => (hp4 (on_ne h (by decide))), fun h => (hp5 (on_ne h (by decide))), fun h h2 => hn4_5 (on_ne h (by decide)) (on_ne h2 (by decide)), hv_t, hv_p, hv_r1, hv_r2, fun h => (hs6 (on_ne h (by decide))), fun h => on_mono (ho6 (on_ne h (by decide))), fun h => (hs7 (on_ne h (by decide))), fun h => on_mono (ho7 (on_ne h (by decide))), by simp [hz]⟩
        · have hp := hpre _ rfl
          simp [Region.binds] at hp
          clear hpre
          have e0 : d2 = .agg #[.int .i64 a, .int .i64 b, .int .i64 d] := hd2 (by first | exact hp | exact hp.1 | exact hp.2 | simp [hp])
          subst e0
          clear hp
          refine wpOp_go rfl rfl (fun K hK => ?_)
          go_wp2_with (first | (go_at_call 70; refine (HR _).mono ?_; rintro e w1 ⟨A1, A2, A3, k1, k2, k3, rfl, h1, hb⟩))
          try refine hK _ _ ?_
          exact ⟨_, _, _, _, _, _, rfl, hB.trans (hb.mono hB.size), keepc hb b0_0 (by omega), keepc hb b0_1 (by omega), keepc hb b0_2 (by omega), Nat.le_trans lB hb.size, fun h => hd0 (on_ne h (by decide)), fun h => rfl, fun h => (hq1 (on_ne h (by decide))).to hb, fun _ => ⟨A1, A2, A3, k1, k2, k3, rfl, h1⟩, fun h => (hp4 (on_ne h (by decide))).to hb, fun h => (hp5 (on_ne h (by decide))).to hb, fun h h2 => hn4_5 (on_ne h (by decide)) (on_ne h2 (by decide)), hv_t.to hb, hv_p.to hb, hv_r1.to hb, hv_r2.to hb, fun h => (hs6 (on_ne h (by decide))).to hb, fun h => on_mono (ho6 (on_ne h (by decide))), fun h => (hs7 (on_ne h (by decide))).to hb, fun h => on_mono (ho7 (on_ne h (by decide))), by simp [hz]⟩
        · have hp := hpre _ rfl
          simp [Region.binds] at hp
          clear hpre
          clear hp
          refine wpOp_go rfl rfl (fun K hK => ?_)
          go_simp
          refine hK _ _ ?_
          clear hK K
          have hb : Below W'.heap.size W' (W'.alloc (.cells #[.bool false, .slice none 0 0, .bool false, .slice none 0 0, .slice none 0 0] 30)) := (Below.refl _ _).alloc (Nat.le_refl _) _
          exact ⟨_, _, _, _, _, _, rfl, hB.trans (hb.mono hB.size), keepc hb b0_0 (by omega), keepc hb b0_1 (by omega), keepc hb b0_2 (by omega), Nat.le_trans lB hb.size, fun h => hd0 (on_ne h (by decide)), fun h => hd2 (on_ne h (by decide)), fun h => (hq1 (on_ne h (by decide))).to hb, fun h => (hq3 (on_ne h (by decide))).to hb, fun _ => AtV.new lB, fun h => (hp5 (on_ne h (by decide))).to hb, fun h h2 => Ne.symm (hp5 (on_ne h2 (by decide))).ne, hv_t.to hb, hv_p.to hb, hv_r1.to hb, hv_r2.to hb, fun h => absurd (ho6 (on_ne h (by decide))) (off hoff), fun h => absurd (ho6 (on_ne h (by decide))) (off hoff), fun h => (hs7 (on_ne h (by decide))).to hb, fun h => on_mono (ho7 (on_ne h (by decide))), by simp [hz]⟩
        · have hp := hpre _ rfl
          simp [Region.binds] at hp
          clear hpre
          clear hp
          refine wpOp_go rfl rfl (fun K hK => ?_)
          go_simp
          refine hK _ _ ?_
          clear hK K
          have hb : Below W'.heap.size W' (W'.alloc (.cells #[.bool false, .slice none 0 0, .bool false, .slice none 0 0, .slice none 0 0] 34)) := (Below.refl _ _).alloc (Nat.le_refl _) _
          exact ⟨_, _, _, _, _, _, rfl, hB.trans (hb.mono hB.size), keepc hb b0_0 (by omega), keepc hb b0_1 (by omega), keepc hb b0_2 (by omega), Nat.le_trans lB hb.size, fun h => hd0 (on_ne h (by decide)), fun h => hd2 (on_ne h (by decide)), fun h => (hq1 (on_ne h (by decide))).to hb, fun h => (hq3 (on_ne h (by decide))).to hb, fun h => (hp4 (on_ne h (by decide))).to hb, fun _ => AtV.new lB, fun h h2 => (hp4 (on_ne h (by decide))).ne, hv_t.to hb, hv_p.to hb, hv_r1.to hb, hv_r2.to hb, fun h => (hs6 (on_ne h (by decide))).to hb, fun h => on_mono (ho6 (on_ne h (by decide))), fun h => absurd (ho7 (on_ne h (by decide))) (off hoff), fun h => absurd (ho7 (on_ne h (by decide))) (off hoff), by simp [hz]⟩
        · have hp := hpre _ rfl
          simp [Region.binds] at hp
          clear hpre
          have hv := hp4 (by simp [hp])
          obtain ⟨g, e2, g1, hv2⟩ := hv
          have hv0 := hv2
          obtain ⟨g2, ⟨c, v1, v2, v3, v4, c0, c1, c2, c3, c4⟩, ⟨f0, f1, f2, f3, f4⟩⟩ := hv2
          obtain ⟨A1, A2, A3, e1, n1⟩ := hq1 (by simp [hp])
          subst e1; subst e2
          refine wpOp_go rfl rfl (fun K hK => ?_)
          go_simp
          refine hK _ _ ?_
          clear hK K
          obtain ⟨X, hX⟩ : ∃ X : World, X = set5 W' (g) (y) A1 A2 A3 := ⟨_, rfl⟩
          have hw : set5 W' (g) (y) A1 A2 A3 = X := hX.symm
          unfold set5 at hw
          rw [hw]
          clear hw
          subst hX
          exact ⟨_, _, _, _, _, _, rfl, set5_below hB (by omega), set5_cell b0_0 (by omega), set5_cell b0_1 (by omega), set5_cell b0_2 (by omega), by rw [set5_size]; exact lB, fun h => by first | exact hd0 (on_ne h (by decide)) | rfl, fun h => by first | exact hd2 (on_ne h (by decide)) | rfl, fun h => (hq1 (on_ne h (by decide))).set5 c0, fun h => (hq3 (on_ne h (by decide))).set5 c0, fun h => ⟨g, rfl, g1, set5_var hv0⟩, fun h => (hp5 (on_ne h (by decide))).set5 (Ne.symm (hn4_5 (by simp [hp]) (by simp [hp]))), fun h h2 => hn4_5 (on_ne h (by decide)) (on_ne h2 (by decide)), hv_t.set5 (by omega) c0, hv_p.set5 (by omega) c0, hv_r1.set5 (by omega), hv_r2.set5 (by omega), fun h => ⟨g, rfl, hv0.putP n1⟩, fun _ => on_mono (by simp [hp]), fun h => (hs7 (on_ne h (by decide))).set5 (Ne.symm (hn4_5 (by simp [hp]) (by simp [hp]))) c0, fun h => on_mono (ho7 (on_ne h (by decide))), by simp [hz]⟩
        · have hp := hpre _ rfl
          simp [Region.binds] at hp
          clear hpre
          have hv := hp5 (by simp [hp])
          obtain ⟨g, e2, g1, hv2⟩ := hv
          have hv0 := hv2
          obtain ⟨g2, ⟨c, v1, v2, v3, v4, c0, c1, c2, c3, c4⟩, ⟨f0, f1, f2, f3, f4⟩⟩ := hv2
          obtain ⟨A1, A2, A3, k1, k2, k3, e1, n1⟩ := hq3 (by simp [hp])
          subst e1; subst e2
          refine wpOp_go rfl rfl (fun K hK => ?_)
          go_simp
          refine hK _ _ ?_
          clear hK K
          obtain ⟨X, hX⟩ : ∃ X : World, X = set5c W' (g) (y) A1 A2 A3 k1 k2 k3 := ⟨_, rfl⟩
          have hw : set5c W' (g) (y) A1 A2 A3 k1 k2 k3 = X := hX.symm
          unfold set5c at hw
          rw [hw]
          clear hw
          subst hX
          exact ⟨_, _, _, _, _, _, rfl, set5c_below hB (by omega), set5c_cell b0_0 (by omega), set5c_cell b0_1 (by omega), set5c_cell b0_2 (by omega), by rw [set5c_size]; exact lB, fun h => by first | exact hd0 (on_ne h (by decide)) | rfl, fun h => by first | exact hd2 (on_ne h (by decide)) | rfl, fun h => (hq1 (on_ne h (by decide))).set5c c0, fun h => (hq3 (on_ne h (by decide))).set5c c0, fun h => (hp4 (on_ne h (by decide))).set5c (hn4_5 (by simp [hp]) (by simp [hp])), fun h => ⟨g, rfl, g1, set5c_var hv0⟩, fun h h2 => hn4_5 (on_ne h (by decide)) (on_ne h2 (by decide)), hv_t.set5c (by omega) c0, hv_p.set5c (by omega) c0, hv_r1.set5c (by omega), hv_r2.set5c (by omega), fun h => (hs6 (on_ne h (by decide))).set5c (hn4_5 (by simp [hp]) (by simp [hp])) c0, fun h => on_mono (ho6 (on_ne h (by decide))), fun h => ⟨g, rfl, hv0.putR n1⟩, fun _ => on_mono (by simp [hp]), by simp [hz]⟩
      · intro l a' W' hr hI
        obtain ⟨d0, q1, d2, q3, p4, p5, rfl, hB, b0_0, b0_1, b0_2, lB, hd0, hd2, hq1, hq3, hp4, hp5, hn4_5, hv_t, hv_p, hv_r1, hv_r2, hs6, ho6, hs7, ho7, hz⟩ := hI
        have a0 := not_ready (i := 0) hr hz rfl (by simp [Region.binds])
        have a1 := not_ready (i := 1) hr hz rfl (by simp [Region.binds, a0])
        have a2 := not_ready (i := 2) hr hz rfl (by simp [Region.binds, a0, a1])
        have a3 := not_ready (i := 3) hr hz rfl (by simp [Region.binds, a0, a1, a2])
        have a4 := not_ready (i := 4) hr hz rfl (by simp [Region.binds, a0, a1, a2, a3])
        have a5 := not_ready (i := 5) hr hz rfl (by simp [Region.binds, a0, a1, a2, a3, a4])
        have a6 := not_ready (i := 6) hr hz rfl (by simp [Region.binds, a0, a1, a2, a3, a4, a5])
        have a7 := not_ready (i := 7) hr hz rfl (by simp [Region.binds, a0, a1, a2, a3, a4, a5, a6])
        clear hr
        replace hs6 := hs6 a6
        replace hs7 := hs7 a7
        have j9 := hs6.at (hp4 a4)
        have j10 := hs7.at (hp5 a5)
        have hne := hn4_5 a4 a5
        clear hs6 hs7 hp4 hp5 hn4_5 hd0 hd2 hq1 hq3 ho6 ho7 hz
        obtain ⟨g9, e9, b9, v9⟩ := j9
        obtain ⟨g10, e10, b10, v10⟩ := j10
        subst e9; subst e10
        have hne2 : g9 ≠ g10 := by rintro rfl; exact hne rfl
        go_wp2_with fail
        go_meet
        exact ⟨g9, g10, rfl, rfl, b9, b10, hne2, v9, v10, hv_t, hv_p, hv_r1, hv_r2, hB⟩
      · exact ⟨_, _, _, _, _, _, rfl, ⟨HW.out.os, HW.out.tape, HW.out.output, HW.out.size, HW.out.block⟩, b0_0, b0_1, b0_2, by rw [hB0]; exact Nat.le_refl _, fun h => absurd h (by decide), fun h => absurd h (by decide), fun h => absurd h (by decide), fun h => absurd h (by decide), fun h => absurd h (by decide), fun h => absurd h (by decide), fun h _ => absurd h (by decide), i_t, i_p, i_r1, i_r2, fun h => absurd h (by decide), fun h => absurd h (by decide), fun h => absurd h (by decide), fun h => absurd h (by decide), by simp⟩
  case rest =>
    obtain ⟨g9, g10, e9, e10, b9, b10, h910, v9, v10, vt, vp, vr1, vr2, hB⟩ := hcut
    subst e9; subst e10
    clear HO HR i_t i_p i_r1 i_r2 b0_0 b0_1 b0_2 HW hB0 l7
    have HD : Hid (w.heap.size + 1 + 1 < g7 ∧ g7 + 1 < g9 ∧ g7 + 1 < g10 ∧ g9 ≠ g10) := Lib.hid ⟨lb, by omega, by omega, h910⟩
    clear lb l8 b9 b10 h910
    go_wp2_with fail
    go_loopg [6] m (fun k u wr => u = .int .i64 k ∧ Hid (k < 1200) ∧ ScIn w (w.heap.size + 1) (w.heap.size + 1 + 1) g7 (g7 + 1) g9 g10 k wr)
    case atStart => exact ⟨rfl, HM, t, y, 2, zt, zy, by have := HM.out; omega, by omega, vt, vp, v9, v10, vr1, vr2, hB⟩
    case round =>
      obtain ⟨rfl, hk, t', x', K, zt', zx', hK, hK2, vt', vp', vx, vy, vr1', vr2', hB'⟩ := hrel
      clear vt vp v9 v10 vr1 vr2 hB zt zy HM HWN t1
      have HK := Lib.hid (And.intro hK hK2)
      clear hK hK2
      by_cases hm0 : gk = 0
      · have t1 : decide (0 < gk) = false := by rw [hm0]; rfl
        clear hm0
        go_upto_region 12 with fail
        have i_x := vx; have i_t := vt'; have i_y := vy; have i_p := vp'; have i_r1 := vr1'; have i_r2 := vr2'
        clear vx vt' vy vp' vr1' vr2'
        have hd := HD.out
        obtain ⟨B0, hB0⟩ : ∃ B, B = 0 := ⟨_, rfl⟩
        refine wp_region_any (by kernel_rfl) ?_
        refine wpAny_inv (fun l a' w' => ∃ q0 q1 : Value, a' = ⟨#[Value.agg #[Value.int IntKind.i64 a, Value.int IntKind.i64 b, Value.int IntKind.i64 d], Value.int IntKind.i16 s, Value.pointer (some { block := w.heap.size, off := 0 }), undef, Value.pointer (some { block := w.heap.size + 1, off := 0 }), Value.pointer (some { block := w.heap.size + 1 + 1, off := 0 }), Value.int IntKind.i64 ↑gk, Value.pointer (some { block := g7, off := 0 }), Value.pointer (some { block := g7 + 1, off := 0 }), Value.pointer (some { block := g9, off := 0 }), Value.pointer (some { block := g10, off := 0 }), u11, u12, u13, u14, u15, u16, u17, u18, u19, u20, u21, u22, u23, u24, u25, u26, u27, Value.int IntKind.i64 ↑gk, Value.bool false, u30, u31, u32, u33, u34, u35, u36, u37, u38, u39, u40, u41, u42, u43, u44, u45, u46, q0, q1], []⟩ ∧ Below w.heap.size w w' ∧ B0 ≤ w'.heap.size ∧ (on l 0 = true → SlotNum w' q0 (x')) ∧ (on l 1 = true → SlotNumC w' q1 (x')) ∧ HasP w' (g9) (x') ∧ HasP w' (g7) (t') ∧ HasR w' (g10) (x') ∧ HasR w' (g7 + 1) (t') ∧ (¬ on l 2 = true → Var5 w' (w.heap.size + 1)) ∧ (on l 2 = true → HasP w' (w.heap.size + 1) (x')) ∧ Var5 w' (w.heap.size + 1) ∧ (¬ on l 3 = true → Var5 w' (w.heap.size + 1 + 1)) ∧ (on l 3 = true → HasR w' (w.heap.size + 1 + 1) (x')) ∧ Var5 w' (w.heap.size + 1 + 1) ∧ l.size = 4) ?_ ?_ _ _ _ _ (by decide) ?_
        · intro l a' W' i hi hI
          obtain ⟨q0, q1, rfl, hB, lB, hq0, hq1, hv_x, hv_t, hv_y, hv_p, hv_r1, hw_r1, hx_r1, hv_r2, hw_r2, hx_r2, hz⟩ := hI
          obtain ⟨hlt, hoff, hpre⟩ := ready_pre hi
          have hc : i = 0 ∨ i = 1 ∨ i = 2 ∨ i = 3 := by have : i < 4 := hlt; omega
          clear hi hlt
          rcases hc with rfl | rfl | rfl | rfl
          · have hp := hpre _ rfl
            simp [Region.binds] at hp
            clear hpre
            obtain ⟨A1, A2, A3, ⟨c0, c1, c2, c3, c4⟩, n1⟩ := hv_x.slot
            clear hp
            refine wpOp_go rfl rfl (fun K hK => ?_)
            go_simp
            refine hK _ _ ?_
            clear hK K
            exact ⟨_, _, rfl, hB, lB, fun _ => ⟨A1, A2, A3, rfl, n1⟩, fun h => (hq1 (on_ne h (by decide))), hv_x, hv_t, hv_y, hv_p, fun h => (hv_r1 (fun h2 => h (on_mono h2))), fun h => (hw_r1 (on_ne h (by decide))), hx_r1, fun h => (hv_r2 (fun h2 => h (on_mono h2))), fun h => (hw_r2 (on_ne h (by decide))), hx_r2, by simp [hz]⟩
          · have hp := hpre _ rfl
            simp [Region.binds] at hp
            clear hpre
            obtain ⟨A1, A2, A3, k1, k2, k3, ⟨c0, c1, c2, c3, c4⟩, n1⟩ := hv_y.slot
            clear hp
            refine wpOp_go rfl rfl (fun K hK => ?_)
            go_simp
            refine hK _ _ ?_
            clear hK K
            exact ⟨_, _, rfl, hB, lB, fun h => (hq0 (on_ne h (by decide))), fun _ => ⟨A1, A2, A3, k1, k2, k3, rfl, n1⟩, hv_x, hv_t, hv_y, hv_p, fun h => (hv_r1 (fun h2 => h (on_mono h2))), fun h => (hw_r1 (on_ne h (by decide))), hx_r1, fun h => (hv_r2 (fun h2 => h (on_mono h2))), fun h => (hw_r2 (on_ne h (by decide))), hx_r2, by simp [hz]⟩
          · have hp := hpre _ rfl
            simp [Region.binds] at hp
            clear hpre
            have hv2 := hx_r1
            have hv0 := hv2
            obtain ⟨g2, ⟨c, v1, v2, v3, v4, c0, c1, c2, c3, c4⟩, ⟨f0, f1, f2, f3, f4⟩⟩ := hv2
            obtain ⟨A1, A2, A3, e1, n1⟩ := hq0 (by simp [hp])
            subst e1
            refine wpOp_go rfl rfl (fun K hK => ?_)
            go_simp
            refine hK _ _ ?_
            clear hK K
            obtain ⟨X, hX⟩ : ∃ X : World, X = set5 W' (w.heap.size + 1) (x') A1 A2 A3 := ⟨_, rfl⟩
            have hw : set5 W' (w.heap.size + 1) (x') A1 A2 A3 = X := hX.symm
            unfold set5 at hw
            rw [hw]
            clear hw
            subst hX
            exact ⟨_, _, rfl, set5_below hB (by omega), by rw [set5_size]; exact lB, fun h => (hq0 (on_ne h (by decide))).set5 c0, fun h => (hq1 (on_ne h (by decide))).set5 c0, hv_x.set5 (by omega) c0, hv_t.set5 (by omega) c0, hv_y.set5 (by omega) c0, hv_p.set5 (by omega) c0, fun h => absurd (on_at (by omega)) h, fun h => hv0.putP n1, set5_var hv0, fun h => (hv_r2 (fun h2 => h (on_mono h2))).set5 (by omega), fun h => (hw_r2 (on_ne h (by decide))).set5 (by omega) c0, hx_r2.set5 (by omega), by simp [hz]⟩
          · have hp := hpre _ rfl
            simp [Region.binds] at hp
            clear hpre
            have hv2 := hx_r2
            have hv0 := hv2
            obtain ⟨g2, ⟨c, v1, v2, v3, v4, c0, c1, c2, c3, c4⟩, ⟨f0, f1, f2, f3, f4⟩⟩ := hv2
            obtain ⟨A1, A2, A3, k1, k2, k3, e1, n1⟩ := hq1 (by simp [hp])
            subst e1
            refine wpOp_go rfl rfl (fun K hK => ?_)
            go_simp
            refine hK _ _ ?_
            clear hK K
            obtain ⟨X, hX⟩ : ∃ X : World, X = set5c W' (w.heap.size + 1 + 1) (x') A1 A2 A3 k1 k2 k3 := ⟨_, rfl⟩
            have hw : set5c W' (w.heap.size + 1 + 1) (x') A1 A2 A3 k1 k2 k3 = X := hX.symm
            unfold set5c at hw
            rw [hw]
            clear hw
            subst hX
            exact ⟨_, _, rfl, set5c_below hB (by omega), by rw [set5c_size]; exact lB, fun h => (hq0 (on_ne h (by decide))).set5c c0, fun h => (hq1 (on_ne h (by decide))).set5c c0, hv_x.set5c (by omega) c0, hv_t.set5c (by omega) c0, hv_y.set5c (by omega) c0, hv_p.set5c (by omega) c0, fun h => (hv_r1 (fun h2 => h (on_mono h2))).set5c (by omega), fun h => (hw_r1 (on_ne h (by decide))).set5c (by omega) c0, hx_r1.set5c (by omega), fun h => absurd (on_at (by omega)) h, fun h => hv0.putR n1, set5c_var hv0, by simp [hz]⟩
        · intro l a' W' hr hI
          obtain ⟨q0, q1, rfl, hB, lB, hq0, hq1, hv_x, hv_t, hv_y, hv_p, hv_r1, hw_r1, hx_r1, hv_r2, hw_r2, hx_r2, hz⟩ := hI
          have a0 := not_ready (i := 0) hr hz rfl (by simp [Region.binds])
          have a1 := not_ready (i := 1) hr hz rfl (by simp [Region.binds, a0])
          have a2 := not_ready (i := 2) hr hz rfl (by simp [Region.binds, a0, a1])
          have a3 := not_ready (i := 3) hr hz rfl (by simp [Region.binds, a0, a1, a2])
          clear hr
          replace hw_r1 := hw_r1 a2
          replace hw_r2 := hw_r2 a3
          clear hv_r1 hv_r2 hx_r1 hx_r2 hq0 hq1 hz hv_x hv_y hv_t hv_p
          obtain ⟨_, ⟨A1, A2, A3, ⟨c0, c1, c2, c3, c4⟩, n1⟩, ⟨f0, f1, f2, f3, f4⟩⟩ := hw_r1
          obtain ⟨_, ⟨B1, B2, B3, k1, k2, k3, ⟨e0, e1, e2, e3, e4⟩, n2⟩, ⟨f0', f1', f2', f3', f4'⟩⟩ := hw_r2
          go_wp2_with fail
          exact bodyPost_ret (v := .tuple #[.agg #[.bool (sn (na x')), .slice A1 (ln (ab (na x'))) (ln (ab (na x'))), .bool (sn (nb x')), .slice A2 (ln (ab (nb x'))) (ln (ab (nb x'))), .slice A3 (ln (un x')) (ln (un x'))], .agg #[.bool (sn (na x')), .slice B1 (ln (ab (na x'))) k1, .bool (sn (nb x')), .slice B2 (ln (ab (nb x'))) k2, .slice B3 (ln (nd x')) k3]]) (by simp [results, Tryz.results12, go_sem, c0, c1, c2, c3, c4, e0, e1, e2, e3, e4]) rfl ⟨x', A1, A2, A3, B1, B2, B3, k1, k2, k3, zx'.mono HK.out.2, rfl, n1, n2, hB⟩
        · exact ⟨_, _, rfl, ⟨hB'.os, hB'.tape, hB'.output, hB'.size, hB'.block⟩, by omega, fun h => absurd h (by decide), fun h => absurd h (by decide), i_x, i_t, i_y, i_p, fun _ => i_r1, fun h => absurd h (by decide), i_r1, fun _ => i_r2, fun h => absurd h (by decide), i_r2, by simp⟩
      · have t1 : decide (0 < gk) = true := by simpa using (show 0 < gk by omega)
        have hst := sc_step HK.out.1 hm0
        have HST := Lib.hid hst
        have hg2 := hk.out
        by_cases ho : gk % 2 = 1
        · have t3 : ((gk : Int) % 2 == 1) = true := by rw [beq_iff_eq]; omega
          clear hst ho hg2
          go_upto_region 10 with fail
          have MU := fun A1 A2 A3 B1 B2 B3 (w : World) h1 h2 => mul_num x' t' A1 A2 A3 B1 B2 B3 w h1 h2 (zx'.mono (by have := HK.out.2; omega)) (zt'.mono (by have := HK.out.2; omega))
          have RM := fun A1 A2 A3 B1 B2 B3 (c1 c2 c3 d1 d2 d3 : Nat) (w : World) h1 h2 => rmul_any x' t' A1 A2 A3 B1 B2 B3 c1 c2 c3 d1 d2 d3 w h1 h2 (zx'.mono (by have := HK.out.2; omega)) (zt'.mono (by have := HK.out.2; omega))
          have i_x := vx; have i_t := vt'; have i_y := vy; have i_p := vp'; have i_r1 := vr1'; have i_r2 := vr2'
          clear vx vt' vy vp' vr1' vr2'
          have hd := HD.out
          obtain ⟨B0, hB0⟩ : ∃ B, B = 0 := ⟨_, rfl⟩
          go_cut [37] from 28 to 46 (fun p wx => HasP wx g9 (x'.mul t') ∧ HasR wx g10 (x'.mul t') ∧ HasP wx g7 t' ∧ HasR wx (g7 + 1) t' ∧ Var5 wx (w.heap.size + 1) ∧ Var5 wx (w.heap.size + 1 + 1) ∧ Below w.heap.size w wx)
          case first =>
            refine wp_region_any (by kernel_rfl) ?_
            refine wpAny_inv (fun l a' w' => ∃ q0 q1 q2 q3 q4 q5 : Value, a' = ⟨#[Value.agg #[Value.int IntKind.i64 a, Value.int IntKind.i64 b, Value.int IntKind.i64 d], Value.int IntKind.i16 s, Value.pointer (some { block := w.heap.size, off := 0 }), undef, Value.pointer (some { block := w.heap.size + 1, off := 0 }), Value.pointer (some { block := w.heap.size + 1 + 1, off := 0 }), Value.int IntKind.i64 ↑gk, Value.pointer (some { block := g7, off := 0 }), Value.pointer (some { block := g7 + 1, off := 0 }), Value.pointer (some { block := g9, off := 0 }), Value.pointer (some { block := g10, off := 0 }), u11, u12, u13, u14, u15, u16, u17, u18, u19, u20, u21, u22, u23, u24, u25, u26, u27, Value.int IntKind.i64 ↑gk, Value.bool true, u30, u31, Value.int IntKind.i64 ↑gk, Value.int IntKind.i64 (↑gk % 2), Value.bool true, q0, q1, q2, q3, q4, q5, u41, u42, u43, u44, u45, u46, u47, u48], []⟩ ∧ Below w.heap.size w w' ∧ B0 ≤ w'.heap.size ∧ (on l 0 = true → SlotNum w' q0 (x')) ∧ (on l 1 = true → SlotNum w' q1 (t')) ∧ (on l 2 = true → SlotNum w' q2 (x'.mul t')) ∧ (on l 3 = true → SlotNumC w' q3 (x')) ∧ (on l 4 = true → SlotNumC w' q4 (t')) ∧ (on l 5 = true → SlotNumC w' q5 (x'.mul t')) ∧ (¬ on l 6 = true → HasP w' (g9) (x')) ∧ (on l 6 = true → HasP w' (g9) (x'.mul t')) ∧ Var5 w' (g9) ∧ (on l 6 = true → on l 0 = true) ∧ HasP w' (g7) (t') ∧ (¬ on l 7 = true → HasR w' (g10) (x')) ∧ (on l 7 = true → HasR w' (g10) (x'.mul t')) ∧ Var5 w' (g10) ∧ (on l 7 = true → on l 3 = true) ∧ HasR w' (g7 + 1) (t') ∧ Var5 w' (w.heap.size + 1) ∧ Var5 w' (w.heap.size + 1 + 1) ∧ l.size = 8) ?_ ?_ _ _ _ _ (by decide) ?_
            · intro l a' W' i hi hI
              obtain ⟨q0, q1, q2, q3, q4, q5, rfl, hB, lB, hq0, hq1, hq2, hq3, hq4, hq5, hv_x, hw_x, hx_x, hl_x_0, hv_t, hv_y, hw_y, hx_y, hl_y_3, hv_p, hv_r1, hv_r2, hz⟩ := hI
              obtain ⟨hlt, hoff, hpre⟩ := ready_pre hi
              have hc : i = 0 ∨ i = 1 ∨ i = 2 ∨ i = 3 ∨ i = 4 ∨ i = 5 ∨ i = 6 ∨ i = 7 := by have : i < 8 := hlt; omega
              clear hi hlt
              rcases hc with rfl | rfl | rfl | rfl | rfl | rfl | rfl | rfl
              · have hp := hpre _ rfl
                simp [Region.binds] at hp
                clear hpre
                obtain ⟨A1, A2, A3, ⟨c0, c1, c2, c3, c4⟩, n1⟩ := (hv_x (fun h => off hoff (hl_x_0 h))).slot
                clear hp
                refine wpOp_go rfl rfl (fun K hK => ?_)
                go_simp
                refine hK _ _ ?_
                clear hK K
                exact ⟨_, _, _, _, _, _, rfl, hB, lB, fun _ => ⟨A1, A2, A3, rfl, n1⟩, fun h => (hq1 (on_ne h (by decide))), fun h => (hq2 (on_ne h (by decide))), fun h => (hq3 (on_ne h (by decide))), fun h => (hq4 (on_ne h (by decide))), fun h => (hq5 (on_ne h (by decide))), fun h => (hv_x (fun h2 => h (on_mono h2))), fun h => (hw_x (on_ne h (by decide))), hx_x, fun h => absurd (hl_x_0 (on_ne h (by decide))) (off hoff), hv_t, fun h => (hv_y (fun h2 => h (on_mono h2))), fun h => (hw_y (on_ne h (by decide))), hx_y, fun h => on_mono (hl_y_3 (on_ne h (by decide))), hv_p, hv_r1, hv_r2, by simp [hz]⟩
              · have hp := hpre _ rfl
                simp [Region.binds] at hp
                clear hpre
                obtain ⟨A1, A2, A3, ⟨c0, c1, c2, c3, c4⟩, n1⟩ := hv_t.slot
                clear hp
                refine wpOp_go rfl rfl (fun K hK => ?_)
                go_simp
                refine hK _ _ ?_
                clear hK K
                exact ⟨_, _, _, _, _, _, rfl, hB, lB, fun h => (hq0 (on_ne h (by decide))), fun _ => ⟨A1, A2, A3, rfl, n1⟩, fun h => (hq2 (on_ne h (by decide))), fun h => (hq3 (on_ne h (by decide))), fun h => (hq4 (on_ne h (by decide))), fun h => (hq5 (on_ne h (by decide))), fun h => (hv_x (fun h2 => h (on_mono h2))), fun h => (hw_x (on_ne h (by decide))), hx_x, fun h => on_mono (hl_x_0 (on_ne h (by decide))), hv_t, fun h => (hv_y (fun h2 => h (on_mono h2))), fun h => (hw_y (on_ne h (by decide))), hx_y, fun h => on_mono (hl_y_3 (on_ne h (by decide))), hv_p, hv_r1, hv_r2, by simp [hz]⟩
              · have hp := hpre _ rfl
                simp [Region.binds] at hp
                clear hpre
                obtain ⟨X1, X2, X3, e1, n1⟩ := hq0 (by simp [hp])
                obtain ⟨Y1, Y2, Y3, e2, n2⟩ := hq1 (by simp [hp])
                subst e1
                subst e2
                clear hp
                refine wpOp_go rfl rfl (fun K hK => ?_)
                go_wp2_with (first | (go_at_call 30; refine (MU X1 X2 X3 Y1 Y2 Y3 _ n1 n2).mono ?_; rintro e w1 ⟨A1, A2, A3, rfl, h1, hb⟩))
                try refine hK _ _ ?_
                exact ⟨_, _, _, _, _, _, rfl, hB.trans (hb.mono hB.size), Nat.le_trans lB hb.size, fun h => (hq0 (on_ne h (by decide))).to hb, fun h => (hq1 (on_ne h (by decide))).to hb, fun _ => ⟨A1, A2, A3, rfl, h1⟩, fun h => (hq3 (on_ne h (by decide))).to hb, fun h => (hq4 (on_ne h (by decide))).to hb, fun h => (hq5 (on_ne h (by decide))).to hb, fun h => (hv_x (fun h2 => h (on_mono h2))).to hb, fun h => (hw_x (on_ne h (by decide))).to hb, hx_x.to hb, fun h => on_mono (hl_x_0 (on_ne h (by decide))), hv_t.to hb, fun h => (hv_y (fun h2 => h (on_mono h2))).to hb, fun h => (hw_y (on_ne h (by decide))).to hb, hx_y.to hb, fun h => on_mono (hl_y_3 (on_ne h (by decide))), hv_p.to hb, hv_r1.to hb, hv_r2.to hb, by simp [hz]⟩
              · have hp := hpre _ rfl
                simp [Region.binds] at hp
                clear hpre
                obtain ⟨A1, A2, A3, k1, k2, k3, ⟨c0, c1, c2, c3, c4⟩, n1⟩ := (hv_y (fun h => off hoff (hl_y_3 h))).slot
                clear hp
                refine wpOp_go rfl rfl (fun K hK => ?_)
                go_simp
                refine hK _ _ ?_
                clear hK K
                exact ⟨_, _, _, _, _, _, rfl, hB, lB, fun h => (hq0 (on_ne h (by decide))), fun h => (hq1 (on_ne h (by decide))), fun h => (hq2 (on_ne h (by decide))), fun _ => ⟨A1, A2, A3, k1, k2, k3, rfl, n1⟩, fun h => (hq4 (on_ne h (by decide))), fun h => (hq5 (on_ne h (by decide))), fun h => (hv_x (fun h2 => h (on_mono h2))), fun h => (hw_x (on_ne h (by decide))), hx_x, fun h => on_mono (hl_x_0 (on_ne h (by decide))), hv_t, fun h => (hv_y (fun h2 => h (on_mono h2))), fun h => (hw_y (on_ne h (by decide))), hx_y, fun h => absurd (hl_y_3 (on_ne h (by decide))) (off hoff), hv_p, hv_r1, hv_r2, by simp [hz]⟩
              · have hp := hpre _ rfl
                simp [Region.binds] at hp
                clear hpre
                obtain ⟨A1, A2, A3, k1, k2, k3, ⟨c0, c1, c2, c3, c4⟩, n1⟩ := hv_p.slot
                clear hp
                refine wpOp_go rfl rfl (fun K hK => ?_)
                go_simp
                refine hK _ _ ?_
                clear hK K
                exact ⟨_, _, _, _, _, _, rfl, hB, lB, fun h => (hq0 (on_ne h (by decide))), fun h => (hq1 (on_ne h (by decide))), fun h => (hq2 (on_ne h (by decide))), fun h => (hq3 (on_ne h (by decide))), fun _ => ⟨A1, A2, A3, k1, k2, k3, rfl, n1⟩, fun h => (hq5 (on_ne h (by decide))), fun h => (hv_x (fun h2 => h (on_mono h2))), fun h => (hw_x (on_ne h (by decide))), hx_x, fun h => on_mono (hl_x_0 (on_ne h (by decide))), hv_t, fun h => (hv_y (fun h2 => h (on_mono h2))), fun h => (hw_y (on_ne h (by decide))), hx_y, fun h => on_mono (hl_y_3 (on_ne h (by decide))), hv_p, hv_r1, hv_r2, by simp [hz]⟩
              · have hp := hpre _ rfl
                simp [Region.binds] at hp
                clear hpre
                obtain ⟨X1, X2, X3, x1, x2, x3, e1, n1⟩ := hq3 (by simp [hp])
                obtain ⟨Y1, Y2, Y3, y1, y2, y3, e2, n2⟩ := hq4 (by simp [hp])
                subst e1
                subst e2
                clear hp
                refine wpOp_go rfl rfl (fun K hK => ?_)
                go_wp2_with (first | (go_at_call 31; refine (RM X1 X2 X3 Y1 Y2 Y3 x1 x2 x3 y1 y2 y3 _ n1 n2).mono ?_; rintro e w1 ⟨A1, A2, A3, k1, k2, k3, rfl, h1, hb⟩))
                try refine hK _ _ ?_
                exact ⟨_, _, _, _, _, _, rfl, hB.trans (hb.mono hB.size), Nat.le_trans lB hb.size, fun h => (hq0 (on_ne h (by decide))).to hb, fun h => (hq1 (on_ne h (by decide))).to hb, fun h => (hq2 (on_ne h (by decide))).to hb, fun h => (hq3 (on_ne h (by decide))).to hb, fun h => (hq4 (on_ne h (by decide))).to hb, fun _ => ⟨A1, A2, A3, k1, k2, k3, rfl, h1⟩, fun h => (hv_x (fun h2 => h (on_mono h2))).to hb, fun h => (hw_x (on_ne h (by decide))).to hb, hx_x.to hb, fun h => on_mono (hl_x_0 (on_ne h (by decide))), hv_t.to hb, fun h => (hv_y (fun h2 => h (on_mono h2))).to hb, fun h => (hw_y (on_ne h (by decide))).to hb, hx_y.to hb, fun h => on_mono (hl_y_3 (on_ne h (by decide))), hv_p.to hb, hv_r1.to hb, hv_r2.to hb, by simp [hz]⟩
              · have hp := hpre _ rfl
                simp [Region.binds] at hp
                clear hpre
                have hv2 := hx_x
                have hv0 := hv2
                obtain ⟨g2, ⟨c, v1, v2, v3, v4, c0, c1, c2, c3, c4⟩, ⟨f0, f1, f2, f3, f4⟩⟩ := hv2
                obtain ⟨A1, A2, A3, e1, n1⟩ := hq2 (by simp [hp])
                subst e1
                refine wpOp_go rfl rfl (fun K hK => ?_)
                go_simp
                refine hK _ _ ?_
                clear hK K
                obtain ⟨X, hX⟩ : ∃ X : World, X = set5 W' (g9) (x'.mul t') A1 A2 A3 := ⟨_, rfl⟩
                have hw : set5 W' (g9) (x'.mul t') A1 A2 A3 = X := hX.symm
                unfold set5 at hw
                rw [hw]
                clear hw
                subst hX
                exact ⟨_, _, _, _, _, _, rfl, set5_below hB (by omega), by rw [set5_size]; exact lB, fun h => (hq0 (on_ne h (by decide))).set5 c0, fun h => (hq1 (on_ne h (by decide))).set5 c0, fun h => (hq2 (on_ne h (by decide))).set5 c0, fun h => (hq3 (on_ne h (by decide))).set5 c0, fun h => (hq4 (on_ne h (by decide))).set5 c0, fun h => (hq5 (on_ne h (by decide))).set5 c0, fun h => absurd (on_at (by omega)) h, fun h => hv0.putP n1, set5_var hv0, fun _ => on_mono (by simp [hp]), hv_t.set5 (by omega) c0, fun h => (hv_y (fun h2 => h (on_mono h2))).set5 (by omega) c0, fun h => (hw_y (on_ne h (by decide))).set5 (by omega) c0, hx_y.set5 (by omega), fun h => on_mono (hl_y_3 (on_ne h (by decide))), hv_p.set5 (by omega) c0, hv_r1.set5 (by omega), hv_r2.set5 (by omega), by simp [hz]⟩
              · have hp := hpre _ rfl
                simp [Region.binds] at hp
                clear hpre
                have hv2 := hx_y
                have hv0 := hv2
                obtain ⟨g2, ⟨c, v1, v2, v3, v4, c0, c1, c2, c3, c4⟩, ⟨f0, f1, f2, f3, f4⟩⟩ := hv2
                obtain ⟨A1, A2, A3, k1, k2, k3, e1, n1⟩ := hq5 (by simp [hp])
                subst e1
                refine wpOp_go rfl rfl (fun K hK => ?_)
                go_simp
                refine hK _ _ ?_
                clear hK K
                obtain ⟨X, hX⟩ : ∃ X : World, X = set5c W' (g10) (x'.mul t') A1 A2 A3 k1 k2 k3 := ⟨_, rfl⟩
                have hw : set5c W' (g10) (x'.mul t') A1 A2 A3 k1 k2 k3 = X := hX.symm
                unfold set5c at hw
                rw [hw]
                clear hw
                subst hX
                exact ⟨_, _, _, _, _, _, rfl, set5c_below hB (by omega), by rw [set5c_size]; exact lB, fun h => (hq0 (on_ne h (by decide))).set5c c0, fun h => (hq1 (on_ne h (by decide))).set5c c0, fun h => (hq2 (on_ne h (by decide))).set5c c0, fun h => (hq3 (on_ne h (by decide))).set5c c0, fun h => (hq4 (on_ne h (by decide))).set5c c0, fun h => (hq5 (on_ne h (by decide))).set5c c0, fun h => (hv_x (fun h2 => h (on_mono h2))).set5c (by omega) c0, fun h => (hw_x (on_ne h (by decide))).set5c (by omega) c0, hx_x.set5c (by omega), fun h => on_mono (hl_x_0 (on_ne h (by decide))), hv_t.set5c (by omega) c0, fun h => absurd (on_at (by omega)) h, fun h => hv0.putR n1, set5c_var hv0, fun _ => on_mono (by simp [hp]), hv_p.set5c (by omega) c0, hv_r1.set5c (by omega), hv_r2.set5c (by omega), by simp [hz]⟩
            · intro l a' W' hr hI
              obtain ⟨q0, q1, q2, q3, q4, q5, rfl, hB, lB, hq0, hq1, hq2, hq3, hq4, hq5, hv_x, hw_x, hx_x, hl_x_0, hv_t, hv_y, hw_y, hx_y, hl_y_3, hv_p, hv_r1, hv_r2, hz⟩ := hI
              have a0 := not_ready (i := 0) hr hz rfl (by simp [Region.binds])
              have a1 := not_ready (i := 1) hr hz rfl (by simp [Region.binds, a0])
              have a2 := not_ready (i := 2) hr hz rfl (by simp [Region.binds, a0, a1])
              have a3 := not_ready (i := 3) hr hz rfl (by simp [Region.binds, a0, a1, a2])
              have a4 := not_ready (i := 4) hr hz rfl (by simp [Region.binds, a0, a1, a2, a3])
              have a5 := not_ready (i := 5) hr hz rfl (by simp [Region.binds, a0, a1, a2, a3, a4])
              have a6 := not_ready (i := 6) hr hz rfl (by simp [Region.binds, a0, a1, a2, a3, a4, a5])
              have a7 := not_ready (i := 7) hr hz rfl (by simp [Region.binds, a0, a1, a2, a3, a4, a5, a6])
              clear hr
              replace hw_x := hw_x a6
              replace hw_y := hw_y a7
              clear hv_x hv_y hx_x hx_y hl_x_0 hl_y_3 hq0 hq1 hq2 hq3 hq4 hq5 hz
              go_wp2_with fail
              go_meet
              exact ⟨hw_x, hw_y, hv_t, hv_p, hv_r1, hv_r2, hB⟩
            · exact ⟨_, _, _, _, _, _, rfl, ⟨hB'.os, hB'.tape, hB'.output, hB'.size, hB'.block⟩, by omega, fun h => absurd h (by decide), fun h => absurd h (by decide), fun h => absurd h (by decide), fun h => absurd h (by decide), fun h => absurd h (by decide), fun h => absurd h (by decide), fun _ => i_x, fun h => absurd h (by decide), i_x.var, fun h => absurd h (by decide), i_t, fun _ => i_y, fun h => absurd h (by decide), i_y.var, fun h => absurd h (by decide), i_p, i_r1, i_r2, by simp⟩
          case rest =>
            clear i_x i_t i_y i_p i_r1 i_r2 hB' hd hB0 MU RM
            obtain ⟨vx, vy, vt', vp', vr1', vr2', hB'⟩ := hcut
            go_upto_region 11 with fail
            have MU := fun A1 A2 A3 B1 B2 B3 (w : World) h1 h2 => mul_num t' t' A1 A2 A3 B1 B2 B3 w h1 h2 (zt'.mono (by have := HK.out.2; omega)) (zt'.mono (by have := HK.out.2; omega))
            have RM := fun A1 A2 A3 B1 B2 B3 (c1 c2 c3 d1 d2 d3 : Nat) (w : World) h1 h2 => rmul_any t' t' A1 A2 A3 B1 B2 B3 c1 c2 c3 d1 d2 d3 w h1 h2 (zt'.mono (by have := HK.out.2; omega)) (zt'.mono (by have := HK.out.2; omega))
            have i_x := vx; have i_t := vt'; have i_y := vy; have i_p := vp'; have i_r1 := vr1'; have i_r2 := vr2'
            clear vx vt' vy vp' vr1' vr2'
            have hd := HD.out
            obtain ⟨B0, hB0⟩ : ∃ B, B = 0 := ⟨_, rfl⟩
            refine wp_region_any (by kernel_rfl) ?_
            refine wpAny_inv (fun l a' w' => ∃ q0 q1 q2 q3 q4 q5 : Value, a' = ⟨#[Value.agg #[Value.int IntKind.i64 a, Value.int IntKind.i64 b, Value.int IntKind.i64 d], Value.int IntKind.i16 s, Value.pointer (some { block := w.heap.size, off := 0 }), undef, Value.pointer (some { block := w.heap.size + 1, off := 0 }), Value.pointer (some { block := w.heap.size + 1 + 1, off := 0 }), Value.int IntKind.i64 ↑gk, Value.pointer (some { block := g7, off := 0 }), Value.pointer (some { block := g7 + 1, off := 0 }), Value.pointer (some { block := g9, off := 0 }), Value.pointer (some { block := g10, off := 0 }), u11, u12, u13, u14, u15, u16, u17, u18, u19, u20, u21, u22, u23, u24, u25, u26, u27, u28, u29, u30, u31, u32, u33, u34, u35, u36, u37, u38, u39, u40, q0, q1, q2, q3, q4, q5, u47, u48], []⟩ ∧ Below w.heap.size w w' ∧ B0 ≤ w'.heap.size ∧ (on l 0 = true → SlotNum w' q0 (t')) ∧ (on l 1 = true → SlotNum w' q1 (t')) ∧ (on l 2 = true → SlotNum w' q2 (t'.mul t')) ∧ (on l 3 = true → SlotNumC w' q3 (t')) ∧ (on l 4 = true → SlotNumC w' q4 (t')) ∧ (on l 5 = true → SlotNumC w' q5 (t'.mul t')) ∧ HasP w' (g9) ((x'.mul t')) ∧ (¬ on l 6 = true → HasP w' (g7) (t')) ∧ (on l 6 = true → HasP w' (g7) (t'.mul t')) ∧ Var5 w' (g7) ∧ (on l 6 = true → on l 0 = true) ∧ (on l 6 = true → on l 1 = true) ∧ HasR w' (g10) ((x'.mul t')) ∧ (¬ on l 7 = true → HasR w' (g7 + 1) (t')) ∧ (on l 7 = true → HasR w' (g7 + 1) (t'.mul t')) ∧ Var5 w' (g7 + 1) ∧ (on l 7 = true → on l 3 = true) ∧ (on l 7 = true → on l 4 = true) ∧ Var5 w' (w.heap.size + 1) ∧ Var5 w' (w.heap.size + 1 + 1) ∧ l.size = 8) ?_ ?_ _ _ _ _ (by decide) ?_
            · intro l a' W' i hi hI
              obtain ⟨q0, q1, q2, q3, q4, q5, rfl, hB, lB, hq0, hq1, hq2, hq3, hq4, hq5, hv_x, hv_t, hw_t, hx_t, hl_t_0, hl_t_1, hv_y, hv_p, hw_p, hx_p, hl_p_3, hl_p_4, hv_r1, hv_r2, hz⟩ := hI
              obtain ⟨hlt, hoff, hpre⟩ := ready_pre hi
              have hc : i = 0 ∨ i = 1 ∨ i = 2 ∨ i = 3 ∨ i = 4 ∨ i = 5 ∨ i = 6 ∨ i = 7 := by have : i < 8 := hlt; omega
              clear hi hlt
              rcases hc with rfl | rfl | rfl | rfl | rfl | rfl | rfl | rfl
              · have hp := hpre _ rfl
                simp [Region.binds] at hp
                clear hpre
                obtain ⟨A1, A2, A3, ⟨c0, c1, c2, c3, c4⟩, n1⟩ := (hv_t (fun h => off hoff (hl_t_0 h))).slot
                clear hp
                refine wpOp_go rfl rfl (fun K hK => ?_)
                go_simp
                refine hK _ _ ?_
                clear hK K
                exact ⟨_, _, _, _, _, _, rfl, hB, lB, fun _ => ⟨A1, A2, A3, rfl, n1⟩, fun h => (hq1 (on_ne h (by decide))), fun h => (hq2 (on_ne h (by decide))), fun h => (hq3 (on_ne h (by decide))), fun h => (hq4 (on_ne h (by decide))), fun h => (hq5 (on_ne h (by decide))), hv_x, fun h => (hv_t (fun h2 => h (on_mono h2))), fun h => (hw_t (on_ne h (by decide))), hx_t, fun h => absurd (hl_t_0 (on_ne h (by decide))) (off hoff), fun h => on_mono (hl_t_1 (on_ne h (by decide))), hv_y, fun h => (hv_p (fun h2 => h (on_mono h2))), fun h => (hw_p (on_ne h (by decide))), hx_p, fun h => on_mono (hl_p_3 (on_ne h (by decide))), fun h => on_mono (hl_p_4 (on_ne h (by decide))), hv_r1, hv_r2, by simp [hz]⟩
              · have hp := hpre _ rfl
                simp [Region.binds] at hp
                clear hpre
                obtain ⟨A1, A2, A3, ⟨c0, c1, c2, c3, c4⟩, n1⟩ := (hv_t (fun h => off hoff (hl_t_1 h))).slot
                clear hp
                refine wpOp_go rfl rfl (fun K hK => ?_)
                go_simp
                refine hK _ _ ?_
                clear hK K
                exact ⟨_, _, _, _, _, _, rfl, hB, lB, fun h => (hq0 (on_ne h (by decide))), fun _ => ⟨A1, A2, A3, rfl, n1⟩, fun h => (hq2 (on_ne h (by decide))), fun h => (hq3 (on_ne h (by decide))), fun h => (hq4 (on_ne h (by decide))), fun h => (hq5 (on_ne h (by decide))), hv_x, fun h => (hv_t (fun h2 => h (on_mono h2))), fun h => (hw_t (on_ne h (by decide))), hx_t, fun h => on_mono (hl_t_0 (on_ne h (by decide))), fun h => absurd (hl_t_1 (on_ne h (by decide))) (off hoff), hv_y, fun h => (hv_p (fun h2 => h (on_mono h2))), fun h => (hw_p (on_ne h (by decide))), hx_p, fun h => on_mono (hl_p_3 (on_ne h (by decide))), fun h => on_mono (hl_p_4 (on_ne h (by decide))), hv_r1, hv_r2, by simp [hz]⟩
              · have hp := hpre _ rfl
                simp [Region.binds] at hp
                clear hpre
                obtain ⟨X1, X2, X3, e1, n1⟩ := hq0 (by simp [hp])
                obtain ⟨Y1, Y2, Y3, e2, n2⟩ := hq1 (by simp [hp])
                subst e1
                subst e2
                clear hp
                refine wpOp_go rfl rfl (fun K hK => ?_)
                go_wp2_with (first | (go_at_call 30; refine (MU X1 X2 X3 Y1 Y2 Y3 _ n1 n2).mono ?_; rintro e w1 ⟨A1, A2, A3, rfl, h1, hb⟩))
                try refine hK _ _ ?_
                exact ⟨_, _, _, _, _, _, rfl, hB.trans (hb.mono hB.size), Nat.le_trans lB hb.size, fun h => (hq0 (on_ne h (by decide))).to hb, fun h => (hq1 (on_ne h (by decide))).to hb, fun _ => ⟨A1, A2, A3, rfl, h1⟩, fun h => (hq3 (on_ne h (by decide))).to hb, fun h => (hq4 (on_ne h (by decide))).to hb, fun h => (hq5 (on_ne h (by decide))).to hb, hv_x.to hb, fun h => (hv_t (fun h2 => h (on_mono h2))).to hb, fun h => (hw_t (on_ne h (by decide))).to hb, hx_t.to hb, fun h => on_mono (hl_t_0 (on_ne h (by decide))), fun h => on_mono (hl_t_1 (on_ne h (by decide))), hv_y.to hb, fun h => (hv_p (fun h2 => h (on_mono h2))).to hb, fun h => (hw_p (on_ne h (by decide))).to hb, hx_p.to hb, fun h => on_mono (hl_p_3 (on_ne h (by decide))), fun h => on_mono (hl_p_4 (on_ne h (by decide))), hv_r1.to hb, hv_r2.to hb, by simp [hz]⟩
              · have hp := hpre _ rfl
                simp [Region.binds] at hp
                clear hpre
                obtain ⟨A1, A2, A3, k1, k2, k3, ⟨c0, c1, c2, c3, c4⟩, n1⟩ := (hv_p (fun h => off hoff (hl_p_3 h))).slot
                clear hp
                refine wpOp_go rfl rfl (fun K hK => ?_)
                go_simp
                refine hK _ _ ?_
                clear hK K
                exact ⟨_, _, _, _, _, _, rfl, hB, lB, fun h => (hq0 (on_ne h (by decide))), fun h => (hq1 (on_ne h (by decide))), fun h => (hq2 (on_ne h (by decide))), fun _ => ⟨A1, A2, A3, k1, k2, k3, rfl, n1⟩, fun h => (hq4 (on_ne h (by decide))), fun h => (hq5 (on_ne h (by decide))), hv_x, fun h => (hv_t (fun h2 => h (on_mono h2))), fun h => (hw_t (on_ne h (by decide))), hx_t, fun h => on_mono (hl_t_0 (on_ne h (by decide))), fun h => on_mono (hl_t_1 (on_ne h (by decide))), hv_y, fun h => (hv_p (fun h2 => h (on_mono h2))), fun h => (hw_p (on_ne h (by decide))), hx_p, fun h => absurd (hl_p_3 (on_ne h (by decide))) (off hoff), fun h => on_mono (hl_p_4 (on_ne h (by decide))), hv_r1, hv_r2, by simp [hz]⟩
              · have hp := hpre _ rfl
                simp [Region.binds] at hp
                clear hpre
                obtain ⟨A1, A2, A3, k1, k2, k3, ⟨c0, c1, c2, c3, c4⟩, n1⟩ := (hv_p (fun h => off hoff (hl_p_4 h))).slot
                clear hp
                refine wpOp_go rfl rfl (fun K hK => ?_)
                go_simp
                refine hK _ _ ?_
                clear hK K
                exact ⟨_, _, _, _, _, _, rfl, hB, lB, fun h => (hq0 (on_ne h (by decide))), fun h => (hq1 (on_ne h (by decide))), fun h => (hq2 (on_ne h (by decide))), fun h => (hq3 (on_ne h (by decide))), fun _ => ⟨A1, A2, A3, k1, k2, k3, rfl, n1⟩, fun h => (hq5 (on_ne h (by decide))), hv_x, fun h => (hv_t (fun h2 => h (on_mono h2))), fun h => (hw_t (on_ne h (by decide))), hx_t, fun h => on_mono (hl_t_0 (on_ne h (by decide))), fun h => on_mono (hl_t_1 (on_ne h (by decide))), hv_y, fun h => (hv_p (fun h2 => h (on_mono h2))), fun h => (hw_p (on_ne h (by decide))), hx_p, fun h => on_mono (hl_p_3 (on_ne h (by decide))), fun h => absurd (hl_p_4 (on_ne h (by decide))) (off hoff), hv_r1, hv_r2, by simp [hz]⟩
              · have hp := hpre _ rfl
                simp [Region.binds] at hp
                clear hpre
                obtain ⟨X1, X2, X3, x1, x2, x3, e1, n1⟩ := hq3 (by simp [hp])
                obtain ⟨Y1, Y2, Y3, y1, y2, y3, e2, n2⟩ := hq4 (by simp [hp])
                subst e1
                subst e2
                clear hp
                refine wpOp_go rfl rfl (fun K hK => ?_)
                go_wp2_with (first | (go_at_call 31; refine (RM X1 X2 X3 Y1 Y2 Y3 x1 x2 x3 y1 y2 y3 _ n1 n2).mono ?_; rintro e w1 ⟨A1, A2, A3, k1, k2, k3, rfl, h1, hb⟩))
                try refine hK _ _ ?_
                exact ⟨_, _, _, _, _, _, rfl, hB.trans (hb.mono hB.size), Nat.le_trans lB hb.size, fun h => (hq0 (on_ne h (by decide))).to hb, fun h => (hq1 (on_ne h (by decide))).to hb, fun h => (hq2 (on_ne h (by decide))).to hb, fun h => (hq3 (on_ne h (by decide))).to hb, fun h => (hq4 (on_ne h (by decide))).to hb, fun _ => ⟨A1, A2, A3, k1, k2, k3, rfl, h1⟩, hv_x.to hb, fun h => (hv_t (fun h2 => h (on_mono h2))).to hb, fun h => (hw_t (on_ne h (by decide))).to hb, hx_t.to hb, fun h => on_mono (hl_t_0 (on_ne h (by decide))), fun h => on_mono (hl_t_1 (on_ne h (by decide))), hv_y.to hb, fun h => (hv_p (fun h2 => h (on_mono h2))).to hb, fun h => (hw_p (on_ne h (by decide))).to hb, hx_p.to hb, fun h => on_mono (hl_p_3 (on_ne h (by decide))), fun h => on_mono (hl_p_4 (on_ne h (by decide))), hv_r1.to hb, hv_r2.to hb, by simp [hz]⟩
              · have hp := hpre _ rfl
                simp [Region.binds] at hp
                clear hpre
                have hv2 := hx_t
                have hv0 := hv2
                obtain ⟨g2, ⟨c, v1, v2, v3, v4, c0, c1, c2, c3, c4⟩, ⟨f0, f1, f2, f3, f4⟩⟩ := hv2
                obtain ⟨A1, A2, A3, e1, n1⟩ := hq2 (by simp [hp])
                subst e1
                refine wpOp_go rfl rfl (fun K hK => ?_)
                go_simp
                refine hK _ _ ?_
                clear hK K
                obtain ⟨X, hX⟩ : ∃ X : World, X = set5 W' (g7) (t'.mul t') A1 A2 A3 := ⟨_, rfl⟩
                have hw : set5 W' (g7) (t'.mul t') A1 A2 A3 = X := hX.symm
                unfold set5 at hw
                rw [hw]
                clear hw
                subst hX
                exact ⟨_, _, _, _, _, _, rfl, set5_below hB (by omega), by rw [set5_size]; exact lB, fun h => (hq0 (on_ne h (by decide))).set5 c0, fun h => (hq1 (on_ne h (by decide))).set5 c0, fun h => (hq2 (on_ne h (by decide))).set5 c0, fun h => (hq3 (on_ne h (by decide))).set5 c0, fun h => (hq4 (on_ne h (by decide))).set5 c0, fun h => (hq5 (on_ne h (by decide))).set5 c0, hv_x.set5 (by omega) c0, fun h => absurd (on_at (by omega)) h, fun h => hv0.putP n1, set5_var hv0, fun _ => on_mono (by simp [hp]), fun _ => on_mono (by simp [hp]), hv_y.set5 (by omega) c0, fun h => (hv_p (fun h2 => h (on_mono h2))).set5 (by omega) c0, fun h => (hw_p (on_ne h (by decide))).set5 (by omega) c0, hx_p.set5 (by omega), fun h => on_mono (hl_p_3 (on_ne h (by decide))), fun h => on_mono (hl_p_4 (on_ne h (by decide))), hv_r1.set5 (by omega), hv_r2.set5 (by omega), by simp [hz]⟩
              · have hp := hpre _ rfl
                simp [Region.binds] at hp
                clear hpre
                have hv2 := hx_p
                have hv0 := hv2
                obtain ⟨g2, ⟨c, v1, v2, v3, v4, c0, c1, c2, c3, c4⟩, ⟨f0, f1, f2, f3, f4⟩⟩ := hv2
                obtain ⟨A1, A2, A3, k1, k2, k3, e1, n1⟩ := hq5 (by simp [hp])
                subst e1
                refine wpOp_go rfl rfl (fun K hK => ?_)
                go_simp
                refine hK _ _ ?_
                clear hK K
                obtain ⟨X, hX⟩ : ∃ X : World, X = set5c W' (g7 + 1) (t'.mul t') A1 A2 A3 k1 k2 k3 := ⟨_, rfl⟩
                have hw : set5c W' (g7 + 1) (t'.mul t') A1 A2 A3 k1 k2 k3 = X := hX.symm
                unfold set5c at hw
                rw [hw]
                clear hw
                subst hX
                exact ⟨_, _, _, _, _, _, rfl, set5c_below hB (by omega), by rw [set5c_size]; exact lB, fun h => (hq0 (on_ne h (by decide))).set5c c0, fun h => (hq1 (on_ne h (by decide))).set5c c0, fun h => (hq2 (on_ne h (by decide))).set5c c0, fun h => (hq3 (on_ne h (by decide))).set5c c0, fun h => (hq4 (on_ne h (by decide))).set5c c0, fun h => (hq5 (on_ne h (by decide))).set5c c0, hv_x.set5c (by omega) c0, fun h => (hv_t (fun h2 => h (on_mono h2))).set5c (by omega) c0, fun h => (hw_t (on_ne h (by decide))).set5c (by omega) c0, hx_t.set5c (by omega), fun h => on_mono (hl_t_0 (on_ne h (by decide))), fun h => on_mono (hl_t_1 (on_ne h (by decide))), hv_y.set5c (by omega) c0, fun h => absurd (on_at (by omega)) h, fun h => hv0.putR n1, set5c_var hv0, fun _ => on_mono (by simp [hp]), fun _ => on_mono (by simp [hp]), hv_r1.set5c (by omega), hv_r2.set5c (by omega), by simp [hz]⟩
            · intro l a' W' hr hI
              obtain ⟨q0, q1, q2, q3, q4, q5, rfl, hB, lB, hq0, hq1, hq2, hq3, hq4, hq5, hv_x, hv_t, hw_t, hx_t, hl_t_0, hl_t_1, hv_y, hv_p, hw_p, hx_p, hl_p_3, hl_p_4, hv_r1, hv_r2, hz⟩ := hI
              have a0 := not_ready (i := 0) hr hz rfl (by simp [Region.binds])
              have a1 := not_ready (i := 1) hr hz rfl (by simp [Region.binds, a0])
              have a2 := not_ready (i := 2) hr hz rfl (by simp [Region.binds, a0, a1])
              have a3 := not_ready (i := 3) hr hz rfl (by simp [Region.binds, a0, a1, a2])
              have a4 := not_ready (i := 4) hr hz rfl (by simp [Region.binds, a0, a1, a2, a3])
              have a5 := not_ready (i := 5) hr hz rfl (by simp [Region.binds, a0, a1, a2, a3, a4])
              have a6 := not_ready (i := 6) hr hz rfl (by simp [Region.binds, a0, a1, a2, a3, a4, a5])
              have a7 := not_ready (i := 7) hr hz rfl (by simp [Region.binds, a0, a1, a2, a3, a4, a5, a6])
              clear hr
              replace hw_t := hw_t a6
              replace hw_p := hw_p a7
              clear hv_t hv_p hx_t hx_p hl_t_0 hl_t_1 hl_p_3 hl_p_4 hq0 hq1 hq2 hq3 hq4 hq5 hz
              go_wp2_with fail
              go_roundg (gk / 2)
              case measure => omega
              case rel => exact ⟨by rw [wrap_half hk.out], Lib.hid (by have := hk.out; omega), t'.mul t', (x'.mul t'), 2 * K + 1, sz_mul zt' zt', sz_mul zx' zt', HST.out.1, HST.out.2, hw_t, hw_p, hv_x, hv_y, hv_r1, hv_r2, hB⟩
            · exact ⟨_, _, _, _, _, _, rfl, ⟨hB'.os, hB'.tape, hB'.output, hB'.size, hB'.block⟩, by omega, fun h => absurd h (by decide), fun h => absurd h (by decide), fun h => absurd h (by decide), fun h => absurd h (by decide), fun h => absurd h (by decide), fun h => absurd h (by decide), i_x, fun _ => i_t, fun h => absurd h (by decide), i_t.var, fun h => absurd h (by decide), fun h => absurd h (by decide), i_y, fun _ => i_p, fun h => absurd h (by decide), i_p.var, fun h => absurd h (by decide), fun h => absurd h (by decide), i_r1, i_r2, by simp⟩
        · have t3 : ((gk : Int) % 2 == 1) = false := by rw [beq_eq_false_iff_ne]; omega
          clear hst ho hg2
          go_upto_region 11 with fail
          have MU := fun A1 A2 A3 B1 B2 B3 (w : World) h1 h2 => mul_num t' t' A1 A2 A3 B1 B2 B3 w h1 h2 (zt'.mono (by have := HK.out.2; omega)) (zt'.mono (by have := HK.out.2; omega))
          have RM := fun A1 A2 A3 B1 B2 B3 (c1 c2 c3 d1 d2 d3 : Nat) (w : World) h1 h2 => rmul_any t' t' A1 A2 A3 B1 B2 B3 c1 c2 c3 d1 d2 d3 w h1 h2 (zt'.mono (by have := HK.out.2; omega)) (zt'.mono (by have := HK.out.2; omega))
          have i_x := vx; have i_t := vt'; have i_y := vy; have i_p := vp'; have i_r1 := vr1'; have i_r2 := vr2'
          clear vx vt' vy vp' vr1' vr2'
          have hd := HD.out
          obtain ⟨B0, hB0⟩ : ∃ B, B = 0 := ⟨_, rfl⟩
          refine wp_region_any (by kernel_rfl) ?_
          refine wpAny_inv (fun l a' w' => ∃ q0 q1 q2 q3 q4 q5 : Value, a' = ⟨#[Value.agg #[Value.int IntKind.i64 a, Value.int IntKind.i64 b, Value.int IntKind.i64 d], Value.int IntKind.i16 s, Value.pointer (some { block := w.heap.size, off := 0 }), undef, Value.pointer (some { block := w.heap.size + 1, off := 0 }), Value.pointer (some { block := w.heap.size + 1 + 1, off := 0 }), Value.int IntKind.i64 ↑gk, Value.pointer (some { block := g7, off := 0 }), Value.pointer (some { block := g7 + 1, off := 0 }), Value.pointer (some { block := g9, off := 0 }), Value.pointer (some { block := g10, off := 0 }), u11, u12, u13, u14, u15, u16, u17, u18, u19, u20, u21, u22, u23, u24, u25, u26, u27, Value.int IntKind.i64 ↑gk, Value.bool true, u30, u31, Value.int IntKind.i64 ↑gk, Value.int IntKind.i64 (↑gk % 2), Value.bool false, u35, u36, u37, u38, u39, u40, q0, q1, q2, q3, q4, q5, u47, u48], []⟩ ∧ Below w.heap.size w w' ∧ B0 ≤ w'.heap.size ∧ (on l 0 = true → SlotNum w' q0 (t')) ∧ (on l 1 = true → SlotNum w' q1 (t')) ∧ (on l 2 = true → SlotNum w' q2 (t'.mul t')) ∧ (on l 3 = true → SlotNumC w' q3 (t')) ∧ (on l 4 = true → SlotNumC w' q4 (t')) ∧ (on l 5 = true → SlotNumC w' q5 (t'.mul t')) ∧ HasP w' (g9) (x') ∧ (¬ on l 6 = true → HasP w' (g7) (t')) ∧ (on l 6 = true → HasP w' (g7) (t'.mul t')) ∧ Var5 w' (g7) ∧ (on l 6 = true → on l 0 = true) ∧ (on l 6 = true → on l 1 = true) ∧ HasR w' (g10) (x') ∧ (¬ on l 7 = true → HasR w' (g7 + 1) (t')) ∧ (on l 7 = true → HasR w' (g7 + 1) (t'.mul t')) ∧ Var5 w' (g7 + 1) ∧ (on l 7 = true → on l 3 = true) ∧ (on l 7 = true → on l 4 = true) ∧ Var5 w' (w.heap.size + 1) ∧ Var5 w' (w.heap.size + 1 + 1) ∧ l.size = 8) ?_ ?_ _ _ _ _ (by decide) ?_
          · intro l a' W' i hi hI
            obtain ⟨q0, q1, q2, q3, q4, q5, rfl, hB, lB, hq0, hq1, hq2, hq3, hq4, hq5, hv_x, hv_t, hw_t, hx_t, hl_t_0, hl_t_1, hv_y, hv_p, hw_p, hx_p, hl_p_3, hl_p_4, hv_r1, hv_r2, hz⟩ := hI
            obtain ⟨hlt, hoff, hpre⟩ := ready_pre hi
            have hc : i = 0 ∨ i = 1 ∨ i = 2 ∨ i = 3 ∨ i = 4 ∨ i = 5 ∨ i = 6 ∨ i = 7 := by have : i < 8 := hlt; omega
            clear hi hlt
            rcases hc with rfl | rfl | rfl | rfl | rfl | rfl | rfl | rfl
            · have hp := hpre _ rfl
              simp [Region.binds] at hp
              clear hpre
              obtain ⟨A1, A2, A3, ⟨c0, c1, c2, c3, c4⟩, n1⟩ := (hv_t (fun h => off hoff (hl_t_0 h))).slot
              clear hp
              refine wpOp_go rfl rfl (fun K hK => ?_)
              go_simp
              refine hK _ _ ?_
              clear hK K
              exact ⟨_, _, _, _, _, _, rfl, hB, lB, fun _ => ⟨A1, A2, A3, rfl, n1⟩, fun h => (hq1 (on_ne h (by decide))), fun h => (hq2 (on_ne h (by decide))), fun h => (hq3 (on_ne h (by decide))), fun h => (hq4 (on_ne h (by decide))), fun h => (hq5 (on_ne h (by decide))), hv_x, fun h => (hv_t (fun h2 => h (on_mono h2))), fun h => (hw_t (on_ne h (by decide))), hx_t, fun h => absurd (hl_t_0 (on_ne h (by decide))) (off hoff), fun h => on_mono (hl_t_1 (on_ne h (by decide))), hv_y, fun h => (hv_p (fun h2 => h (on_mono h2))), fun h => (hw_p (on_ne h (by decide))), hx_p, fun h => on_mono (hl_p_3 (on_ne h (by decide))), fun h => on_mono (hl_p_4 (on_ne h (by decide))), hv_r1, hv_r2, by simp [hz]⟩
            · have hp := hpre _ rfl
              simp [Region.binds] at hp
              clear hpre
              obtain ⟨A1, A2, A3, ⟨c0, c1, c2, c3, c4⟩, n1⟩ := (hv_t (fun h => off hoff (hl_t_1 h))).slot
              clear hp
              refine wpOp_go rfl rfl (fun K hK => ?_)
              go_simp
              refine hK _ _ ?_
              clear hK K
              exact ⟨_, _, _, _, _, _, rfl, hB, lB, fun h => (hq0 (on_ne h (by decide))), fun _ => ⟨A1, A2, A3, rfl, n1⟩, fun h => (hq2 (on_ne h (by decide))), fun h => (hq3 (on_ne h (by decide))), fun h => (hq4 (on_ne h (by decide))), fun h => (hq5 (on_ne h (by decide))), hv_x, fun h => (hv_t (fun h2 => h (on_mono h2))), fun h => (hw_t (on_ne h (by decide))), hx_t, fun h => on_mono (hl_t_0 (on_ne h (by decide))), fun h => absurd (hl_t_1 (on_ne h (by decide))) (off hoff), hv_y, fun h => (hv_p (fun h2 => h (on_mono h2))), fun h => (hw_p (on_ne h (by decide))), hx_p, fun h => on_mono (hl_p_3 (on_ne h (by decide))), fun h => on_mono (hl_p_4 (on_ne h (by decide))), hv_r1, hv_r2, by simp [hz]⟩
            · have hp := hpre _ rfl
              simp [Region.binds] at hp
              clear hpre
              obtain ⟨X1, X2, X3, e1, n1⟩ := hq0 (by simp [hp])
              obtain ⟨Y1, Y2, Y3, e2, n2⟩ := hq1 (by simp [hp])
              subst e1
              subst e2
              clear hp
              refine wpOp_go rfl rfl (fun K hK => ?_)
              go_wp2_with (first | (go_at_call 30; refine (MU X1 X2 X3 Y1 Y2 Y3 _ n1 n2).mono ?_; rintro e w1 ⟨A1, A2, A3, rfl, h1, hb⟩))
              try refine hK _ _ ?_
              exact ⟨_, _, _, _, _, _, rfl, hB.trans (hb.mono hB.size), Nat.le_trans lB hb.size, fun h => (hq0 (on_ne h (by decide))).to hb, fun h => (hq1 (on_ne h (by decide))).to hb, fun _ => ⟨A1, A2, A3, rfl, h1⟩, fun h => (hq3 (on_ne h (by decide))).to hb, fun h => (hq4 (on_ne h (by decide))).to hb, fun h => (hq5 (on_ne h (by decide))).to hb, hv_x.to hb, fun h => (hv_t (fun h2 => h (on_mono h2))).to hb, fun h => (hw_t (on_ne h (by decide))).to hb, hx_t.to hb, fun h => on_mono (hl_t_0 (on_ne h (by decide))), fun h => on_mono (hl_t_1 (on_ne h (by decide))), hv_y.to hb, fun h => (hv_p (fun h2 => h (on_mono h2))).to hb, fun h => (hw_p (on_ne h (by decide))).to hb, hx_p.to hb, fun h => on_mono (hl_p_3 (on_ne h (by decide))), fun h => on_mono (hl_p_4 (on_ne h (by decide))), hv_r1.to hb, hv_r2.to hb, by simp [hz]⟩
            · have hp := hpre _ rfl
              simp [Region.binds] at hp
              clear hpre
              obtain ⟨A1, A2, A3, k1, k2, k3, ⟨c0, c1, c2, c3, c4⟩, n1⟩ := (hv_p (fun h => off hoff (hl_p_3 h))).slot
              clear hp
              refine wpOp_go rfl rfl (fun K hK => ?_)
              go_simp
              refine hK _ _ ?_
              clear hK K
              exact ⟨_, _, _, _, _, _, rfl, hB, lB, fun h => (hq0 (on_ne h (by decide))), fun h => (hq1 (on_ne h (by decide))), fun h => (hq2 (on_ne h (by decide))), fun _ => ⟨A1, A2, A3, k1, k2, k3, rfl, n1⟩, fun h => (hq4 (on_ne h (by decide))), fun h => (hq5 (on_ne h (by decide))), hv_x, fun h => (hv_t (fun h2 => h (on_mono h2))), fun h => (hw_t (on_ne h (by decide))), hx_t, fun h => on_mono (hl_t_0 (on_ne h (by decide))), fun h => on_mono (hl_t_1 (on_ne h (by decide))), hv_y, fun h => (hv_p (fun h2 => h (on_mono h2))), fun h => (hw_p (on_ne h (by decide))), hx_p, fun h => absurd (hl_p_3 (on_ne h (by decide))) (off hoff), fun h => on_mono (hl_p_4 (on_ne h (by decide))), hv_r1, hv_r2, by simp [hz]⟩
            · have hp := hpre _ rfl
              simp [Region.binds] at hp
              clear hpre
              obtain ⟨A1, A2, A3, k1, k2, k3, ⟨c0, c1, c2, c3, c4⟩, n1⟩ := (hv_p (fun h => off hoff (hl_p_4 h))).slot
              clear hp
              refine wpOp_go rfl rfl (fun K hK => ?_)
              go_simp
              refine hK _ _ ?_
              clear hK K
              exact ⟨_, _, _, _, _, _, rfl, hB, lB, fun h => (hq0 (on_ne h (by decide))), fun h => (hq1 (on_ne h (by decide))), fun h => (hq2 (on_ne h (by decide))), fun h => (hq3 (on_ne h (by decide))), fun _ => ⟨A1, A2, A3, k1, k2, k3, rfl, n1⟩, fun h => (hq5 (on_ne h (by decide))), hv_x, fun h => (hv_t (fun h2 => h (on_mono h2))), fun h => (hw_t (on_ne h (by decide))), hx_t, fun h => on_mono (hl_t_0 (on_ne h (by decide))), fun h => on_mono (hl_t_1 (on_ne h (by decide))), hv_y, fun h => (hv_p (fun h2 => h (on_mono h2))), fun h => (hw_p (on_ne h (by decide))), hx_p, fun h => on_mono (hl_p_3 (on_ne h (by decide))), fun h => absurd (hl_p_4 (on_ne h (by decide))) (off hoff), hv_r1, hv_r2, by simp [hz]⟩
            · have hp := hpre _ rfl
              simp [Region.binds] at hp
              clear hpre
              obtain ⟨X1, X2, X3, x1, x2, x3, e1, n1⟩ := hq3 (by simp [hp])
              obtain ⟨Y1, Y2, Y3, y1, y2, y3, e2, n2⟩ := hq4 (by simp [hp])
              subst e1
              subst e2
              clear hp
              refine wpOp_go rfl rfl (fun K hK => ?_)
              go_wp2_with (first | (go_at_call 31; refine (RM X1 X2 X3 Y1 Y2 Y3 x1 x2 x3 y1 y2 y3 _ n1 n2).mono ?_; rintro e w1 ⟨A1, A2, A3, k1, k2, k3, rfl, h1, hb⟩))
              try refine hK _ _ ?_
              exact ⟨_, _, _, _, _, _, rfl, hB.trans (hb.mono hB.size), Nat.le_trans lB hb.size, fun h => (hq0 (on_ne h (by decide))).to hb, fun h => (hq1 (on_ne h (by decide))).to hb, fun h => (hq2 (on_ne h (by decide))).to hb, fun h => (hq3 (on_ne h (by decide))).to hb, fun h => (hq4 (on_ne h (by decide))).to hb, fun _ => ⟨A1, A2, A3, k1, k2, k3, rfl, h1⟩, hv_x.to hb, fun h => (hv_t (fun h2 => h (on_mono h2))).to hb, fun h => (hw_t (on_ne h (by decide))).to hb, hx_t.to hb, fun h => on_mono (hl_t_0 (on_ne h (by decide))), fun h => on_mono (hl_t_1 (on_ne h (by decide))), hv_y.to hb, fun h => (hv_p (fun h2 => h (on_mono h2))).to hb, fun h => (hw_p (on_ne h (by decide))).to hb, hx_p.to hb, fun h => on_mono (hl_p_3 (on_ne h (by decide))), fun h => on_mono (hl_p_4 (on_ne h (by decide))), hv_r1.to hb, hv_r2.to hb, by simp [hz]⟩
            · have hp := hpre _ rfl
              simp [Region.binds] at hp
              clear hpre
              have hv2 := hx_t
              have hv0 := hv2
              obtain ⟨g2, ⟨c, v1, v2, v3, v4, c0, c1, c2, c3, c4⟩, ⟨f0, f1, f2, f3, f4⟩⟩ := hv2
              obtain ⟨A1, A2, A3, e1, n1⟩ := hq2 (by simp [hp])
              subst e1
              refine wpOp_go rfl rfl (fun K hK => ?_)
              go_simp
              refine hK _ _ ?_
              clear hK K
              obtain ⟨X, hX⟩ : ∃ X : World, X = set5 W' (g7) (t'.mul t') A1 A2 A3 := ⟨_, rfl⟩
              have hw : set5 W' (g7) (t'.mul t') A1 A2 A3 = X := hX.symm
              unfold set5 at hw
              rw [hw]
              clear hw
              subst hX
              exact ⟨_, _, _, _, _, _, rfl, set5_below hB (by omega), by rw [set5_size]; exact lB, fun h => (hq0 (on_ne h (by decide))).set5 c0, fun h => (hq1 (on_ne h (by decide))).set5 c0, fun h => (hq2 (on_ne h (by decide))).set5 c0, fun h => (hq3 (on_ne h (by decide))).set5 c0, fun h => (hq4 (on_ne h (by decide))).set5 c0, fun h => (hq5 (on_ne h (by decide))).set5 c0, hv_x.set5 (by omega) c0, fun h => absurd (on_at (by omega)) h, fun h => hv0.putP n1, set5_var hv0, fun _ => on_mono (by simp [hp]), fun _ => on_mono (by simp [hp]), hv_y.set5 (by omega) c0, fun h => (hv_p (fun h2 => h (on_mono h2))).set5 (by omega) c0, fun h => (hw_p (on_ne h (by decide))).set5 (by omega) c0, hx_p.set5 (by omega), fun h => on_mono (hl_p_3 (on_ne h (by decide))), fun h => on_mono (hl_p_4 (on_ne h (by decide))), hv_r1.set5 (by omega), hv_r2.set5 (by omega), by simp [hz]⟩
            · have hp := hpre _ rfl
              simp [Region.binds] at hp
              clear hpre
              have hv2 := hx_p
              have hv0 := hv2
              obtain ⟨g2, ⟨c, v1, v2, v3, v4, c0, c1, c2, c3, c4⟩, ⟨f0, f1, f2, f3, f4⟩⟩ := hv2
              obtain ⟨A1, A2, A3, k1, k2, k3, e1, n1⟩ := hq5 (by simp [hp])
              subst e1
              refine wpOp_go rfl rfl (fun K hK => ?_)
              go_simp
              refine hK _ _ ?_
              clear hK K
              obtain ⟨X, hX⟩ : ∃ X : World, X = set5c W' (g7 + 1) (t'.mul t') A1 A2 A3 k1 k2 k3 := ⟨_, rfl⟩
              have hw : set5c W' (g7 + 1) (t'.mul t') A1 A2 A3 k1 k2 k3 = X := hX.symm
              unfold set5c at hw
              rw [hw]
              clear hw
              subst hX
              exact ⟨_, _, _, _, _, _, rfl, set5c_below hB (by omega), by rw [set5c_size]; exact lB, fun h => (hq0 (on_ne h (by decide))).set5c c0, fun h => (hq1 (on_ne h (by decide))).set5c c0, fun h => (hq2 (on_ne h (by decide))).set5c c0, fun h => (hq3 (on_ne h (by decide))).set5c c0, fun h => (hq4 (on_ne h (by decide))).set5c c0, fun h => (hq5 (on_ne h (by decide))).set5c c0, hv_x.set5c (by omega) c0, fun h => (hv_t (fun h2 => h (on_mono h2))).set5c (by omega) c0, fun h => (hw_t (on_ne h (by decide))).set5c (by omega) c0, hx_t.set5c (by omega), fun h => on_mono (hl_t_0 (on_ne h (by decide))), fun h => on_mono (hl_t_1 (on_ne h (by decide))), hv_y.set5c (by omega) c0, fun h => absurd (on_at (by omega)) h, fun h => hv0.putR n1, set5c_var hv0, fun _ => on_mono (by simp [hp]), fun _ => on_mono (by simp [hp]), hv_r1.set5c (by omega), hv_r2.set5c (by omega), by simp [hz]⟩
          · intro l a' W' hr hI
            obtain ⟨q0, q1, q2, q3, q4, q5, rfl, hB, lB, hq0, hq1, hq2, hq3, hq4, hq5, hv_x, hv_t, hw_t, hx_t, hl_t_0, hl_t_1, hv_y, hv_p, hw_p, hx_p, hl_p_3, hl_p_4, hv_r1, hv_r2, hz⟩ := hI
            have a0 := not_ready (i := 0) hr hz rfl (by simp [Region.binds])
            have a1 := not_ready (i := 1) hr hz rfl (by simp [Region.binds, a0])
            have a2 := not_ready (i := 2) hr hz rfl (by simp [Region.binds, a0, a1])
            have a3 := not_ready (i := 3) hr hz rfl (by simp [Region.binds, a0, a1, a2])
            have a4 := not_ready (i := 4) hr hz rfl (by simp [Region.binds, a0, a1, a2, a3])
            have a5 := not_ready (i := 5) hr hz rfl (by simp [Region.binds, a0, a1, a2, a3, a4])
            have a6 := not_ready (i := 6) hr hz rfl (by simp [Region.binds, a0, a1, a2, a3, a4, a5])
            have a7 := not_ready (i := 7) hr hz rfl (by simp [Region.binds, a0, a1, a2, a3, a4, a5, a6])
            clear hr
            replace hw_t := hw_t a6
            replace hw_p := hw_p a7
            clear hv_t hv_p hx_t hx_p hl_t_0 hl_t_1 hl_p_3 hl_p_4 hq0 hq1 hq2 hq3 hq4 hq5 hz
            go_wp2_with fail
            go_roundg (gk / 2)
            case measure => omega
            case rel => exact ⟨by rw [wrap_half hk.out], Lib.hid (by have := hk.out; omega), t'.mul t', x', 2 * K + 1, sz_mul zt' zt', zx'.mono (by omega), HST.out.1, HST.out.2, hw_t, hw_p, hv_x, hv_y, hv_r1, hv_r2, hB⟩
          · exact ⟨_, _, _, _, _, _, rfl, ⟨hB'.os, hB'.tape, hB'.output, hB'.size, hB'.block⟩, by omega, fun h => absurd h (by decide), fun h => absurd h (by decide), fun h => absurd h (by decide), fun h => absurd h (by decide), fun h => absurd h (by decide), fun h => absurd h (by decide), i_x, fun _ => i_t, fun h => absurd h (by decide), i_t.var, fun h => absurd h (by decide), fun h => absurd h (by decide), i_y, fun _ => i_p, fun h => absurd h (by decide), i_p.var, fun h => absurd h (by decide), fun h => absurd h (by decide), i_r1, i_r2, by simp⟩

/-- 'scaled': both sides hold the same number. -/
theorem scaled_two (a b d s : Int) (w : World) (ha : -9223372036854775808 ≤ a ∧ a ≤ 9223372036854775807) (hb : -9223372036854775808 ≤ b ∧ b ≤ 9223372036854775807) (hd : -9223372036854775808 ≤ d ∧ d ≤ 9223372036854775807) (h1 : -32768 ≤ s) (h2 : s ≤ 32767) :
    Calls Tryz.prog 12 #[.agg #[.int .i64 a, .int .i64 b, .int .i64 d], .int .i16 s] w (RetTwo w 7200) := by
  have h3 := Int.lt_tmod_of_pos s (show (0 : Int) < 1200 by omega)
  have h4 := Int.tmod_lt_of_pos s (show (0 : Int) < 1200 by omega)
  by_cases h : s.tmod 1200 < 0
  · exact scaled_neg (ofv a b d) a b d s w (fun w => of_any a b d w ha hb hd) (fun w => rof_any a b d w ha hb hd) (sz_of ha hb hd) h1 h2 _ rfl h3 h4 h
  · exact scaled_pos (ofv a b d) a b d s w (fun w => of_any a b d w ha hb hd) (fun w => rof_any a b d w ha hb hd) (sz_of ha hb hd) h1 h2 _ rfl h3 h4 (by omega)
end Go.Proofs.YtgpmlhpgdalheaaGreat
