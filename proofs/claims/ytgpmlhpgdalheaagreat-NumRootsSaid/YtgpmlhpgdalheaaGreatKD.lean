/- The reference: Of. Values and variables of both sides: a number of the program, a number of the reference. The program's 'Sqrt' at any number. NumRoots: the walk. -/
import Derived.Test.YtgpmlhpgdalheaaGreatRI
import Derived.Test.YtgpmlhpgdalheaaGreatOf
import Derived.Test.YtgpmlhpgdalheaaGreatInv
import Derived.Test.YtgpmlhpgdalheaaGreatKA
import Derived.Test.YtgpmlhpgdalheaaGreatKC
import Derived.Test.YtgpmlhpgdalheaaGreatRS
import Derived.Test.YtgpmlhpgdalheaaGreatLawB
import Derived.Test.YtgpmlhpgdalheaaGreatAwakeF
namespace Go.Proofs.YtgpmlhpgdalheaaGreat
open Go.RowKit Pl
set_option linter.unusedVariables false
set_option linter.unusedSimpArgs false

/-- The five cells of a number of the reference. -/
def Cells5c (w : World) (g : Nat) (q : Cx) (A1 A2 A3 : Option Addr) (k1 k2 k3 : Nat) : Prop := w.cell? ⟨g, 0, none⟩ = some (.bool (sn (na q))) ∧ w.cell? ⟨g, 1, none⟩ = some (.slice A1 (ln (ab (na q))) k1) ∧ w.cell? ⟨g, 2, none⟩ = some (.bool (sn (nb q))) ∧ w.cell? ⟨g, 3, none⟩ = some (.slice A2 (ln (ab (nb q))) k2) ∧ w.cell? ⟨g, 4, none⟩ = some (.slice A3 (ln (nd q)) k3)
/-- A Num is stored into the five cells of the block p. -/
def set5c (w : World) (p : Nat) (q : Cx) (A1 A2 A3 : Option Addr) (k1 k2 k3 : Nat) : World :=
  ((((w.setCell ⟨p, 0, none⟩ (.bool (sn (na q)))).setCell ⟨p, 1, none⟩ (.slice A1 (ln (ab (na q))) k1)).setCell ⟨p, 2, none⟩ (.bool (sn (nb q)))).setCell ⟨p, 3, none⟩ (.slice A2 (ln (ab (nb q))) k2)).setCell ⟨p, 4, none⟩ (.slice A3 (ln (nd q)) k3)
theorem set5c_size (w : World) (p : Nat) (q : Cx) (A1 A2 A3 : Option Addr) (k1 k2 k3 : Nat) : (set5c w p q A1 A2 A3 k1 k2 k3).heap.size = w.heap.size := by simp [set5c, World.setCell]
theorem set5c_cell {w : World} {p b i : Nat} {q : Cx} {A1 A2 A3 : Option Addr} {k1 k2 k3 : Nat} {v : Value} (h : w.cell? ⟨b, i, none⟩ = some v) (h1 : b ≠ p) : (set5c w p q A1 A2 A3 k1 k2 k3).cell? ⟨b, i, none⟩ = some v := keepo (keepo (keepo (keepo (keepo h (.inl h1)) (.inl h1)) (.inl h1)) (.inl h1)) (.inl h1)
theorem set5c_frozen {w : World} {p b i : Nat} {q : Cx} {A1 A2 A3 : Option Addr} {k1 k2 k3 : Nat} {v : Bool} (h : w.frozen? ⟨b, i, none⟩ = v) : (set5c w p q A1 A2 A3 k1 k2 k3).frozen? ⟨b, i, none⟩ = v := keepof (keepof (keepof (keepof (keepof h))))
theorem set5c_below {w W : World} {B p : Nat} {q : Cx} {A1 A2 A3 : Option Addr} {k1 k2 k3 : Nat} (h : Below B w W) (hp : B ≤ p) : Below B w (set5c W p q A1 A2 A3 k1 k2 k3) :=
  ((((h.setCell (by exact hp) _).setCell (by exact hp) _).setCell (by exact hp) _).setCell (by exact hp) _).setCell (by exact hp) _
theorem set5c_nat {w : World} {p n : Nat} {q : Cx} {A1 A2 A3 A : Option Addr} {k1 k2 k3 : Nat} {c : Bool} (h : Nat32 w A n) (u : w.cell? ⟨p, 0, none⟩ = some (.bool c)) : Nat32 (set5c w p q A1 A2 A3 k1 k2 k3) A n := by
  have nb : ∀ (b : Bool) k m, Value.bool b ≠ .int k m := by intro b k m e; cases e
  have a1 := cell_self (u := .bool (sn (na q))) u
  have a2 := keepo (R := p) (j := 1) (u := .slice A1 (ln (ab (na q))) k1) a1 (.inr (by omega))
  have a3 := keepo (R := p) (j := 2) (u := .bool (sn (Pl.nb q))) a2 (.inr (by omega))
  have a4 := keepo (R := p) (j := 3) (u := .slice A2 (ln (ab (Pl.nb q))) k2) a3 (.inr (by omega))
  exact ((((h.setBox u (nb _)).setBox a1 (nb _)).setBox a2 (nb _)).setBox a3 (nb _)).setBox a4 (nb _)
theorem set5c_num3 {w : World} {p : Nat} {q r : Cx} {A1 A2 A3 B1 B2 B3 : Option Addr} {k1 k2 k3 : Nat} {c : Bool} (h : Num3C w B1 B2 B3 r) (u : w.cell? ⟨p, 0, none⟩ = some (.bool c)) : Num3C (set5c w p q A1 A2 A3 k1 k2 k3) B1 B2 B3 r := ⟨set5c_nat h.1 u, set5c_nat h.2.1 u, set5c_nat h.2.2 u⟩
theorem set5c_self {w : World} {p : Nat} {q : Cx} {A1 A2 A3 : Option Addr} {k1 k2 k3 : Nat} {v0 v1 v2 v3 v4 : Value} (u0 : w.cell? ⟨p, 0, none⟩ = some v0) (u1 : w.cell? ⟨p, 1, none⟩ = some v1) (u2 : w.cell? ⟨p, 2, none⟩ = some v2) (u3 : w.cell? ⟨p, 3, none⟩ = some v3) (u4 : w.cell? ⟨p, 4, none⟩ = some v4) : Cells5c (set5c w p q A1 A2 A3 k1 k2 k3) p q A1 A2 A3 k1 k2 k3 := by
  unfold set5c
  have o0 := cell_self (u := .bool (sn (na q))) u0
  refine ⟨?_, ?_, ?_, ?_, ?_⟩
  · exact keepo (keepo (keepo (keepo o0 (by omega)) (by omega)) (by omega)) (by omega)
  · exact keepo (keepo (keepo (cell_self (keepo u1 (by omega))) (by omega)) (by omega)) (by omega)
  · exact keepo (keepo (cell_self (keepo (keepo u2 (by omega)) (by omega))) (by omega)) (by omega)
  · exact keepo (cell_self (keepo (keepo (keepo u3 (by omega)) (by omega)) (by omega))) (by omega)
  · exact cell_self (keepo (keepo (keepo (keepo u4 (by omega)) (by omega)) (by omega)) (by omega))

set_option maxHeartbeats 4000000 in
theorem rof_more (a b d : Int) (w : World) (ha : -9223372036854775808 ≤ a ∧ a ≤ 9223372036854775807) (hb : -9223372036854775808 ≤ b ∧ b ≤ 9223372036854775807) (hd : -9223372036854775808 ≤ d ∧ d ≤ 9223372036854775807) (h : d ≠ 0) :
    Calls Tryz.prog 70 #[.agg #[.int .i64 a, .int .i64 b, .int .i64 d]] w (RetNumC w (frz a b d)) := by
  have HA := Lib.hid ha
  have HB := Lib.hid hb
  have HD := Lib.hid hd
  have H0 := Lib.hid h
  have t : (d == 0) = false := by rw [beq_eq_false_iff_ne]; omega
  clear ha hb hd h
  go_enter Tryz.func70, Tryz.ntmps70
  go_wp2_with fail
  obtain ⟨W, hW⟩ : ∃ W : World, W = ((w.alloc (.cells #[.int .i64 a, .int .i64 b, .int .i64 d] 23)).alloc (.cells #[.bool false, .slice none 0 0, .bool false, .slice none 0 0, .slice none 0 0] 34)) := ⟨_, rfl⟩
  have s0_0 : W.cell? ⟨w.heap.size, 0, none⟩ = some (.int .i64 a) := by subst hW; go_simp
  have s0_1 : W.cell? ⟨w.heap.size, 1, none⟩ = some (.int .i64 b) := by subst hW; go_simp
  have s0_2 : W.cell? ⟨w.heap.size, 2, none⟩ = some (.int .i64 d) := by subst hW; go_simp
  have r0 : W.cell? ⟨w.heap.size + 1, 0, none⟩ = some (.bool false) := by subst hW; go_simp
  have f0 : W.frozen? ⟨w.heap.size + 1, 0, none⟩ = false := by subst hW; go_simp
  have r1 : W.cell? ⟨w.heap.size + 1, 1, none⟩ = some (.slice none 0 0) := by subst hW; go_simp
  have f1 : W.frozen? ⟨w.heap.size + 1, 1, none⟩ = false := by subst hW; go_simp
  have r2 : W.cell? ⟨w.heap.size + 1, 2, none⟩ = some (.bool false) := by subst hW; go_simp
  have f2 : W.frozen? ⟨w.heap.size + 1, 2, none⟩ = false := by subst hW; go_simp
  have r3 : W.cell? ⟨w.heap.size + 1, 3, none⟩ = some (.slice none 0 0) := by subst hW; go_simp
  have f3 : W.frozen? ⟨w.heap.size + 1, 3, none⟩ = false := by subst hW; go_simp
  have r4 : W.cell? ⟨w.heap.size + 1, 4, none⟩ = some (.slice none 0 0) := by subst hW; go_simp
  have f4 : W.frozen? ⟨w.heap.size + 1, 4, none⟩ = false := by subst hW; go_simp
  have HW : Below w.heap.size w W := by subst hW; exact (((Below.refl w.heap.size w).alloc (Nat.le_refl _) _).alloc (by simp) _)
  have l0 : w.heap.size < W.heap.size := by subst hW; simp <;> omega
  have l1 : w.heap.size + 1 < W.heap.size := by subst hW; simp
  have n0 : w.heap.size ≠ w.heap.size + 1 := by omega
  rw [← hW]
  clear hW
  replace HW := Lib.hid HW
  refine (rnew_any a b d _ HA.out HB.out HD.out H0.out).mono ?_
  rintro e w1 ⟨A1, A2, A3, cA1, cA2, cA3, rfl, h1, hb1⟩
  replace s0_0 := keepc hb1 s0_0 l0
  replace s0_1 := keepc hb1 s0_1 l0
  replace s0_2 := keepc hb1 s0_2 l0
  replace r0 := keepc hb1 r0 l1
  replace f0 := keepf hb1 f0 l1
  replace r1 := keepc hb1 r1 l1
  replace f1 := keepf hb1 f1 l1
  replace r2 := keepc hb1 r2 l1
  replace f2 := keepf hb1 f2 l1
  replace r3 := keepc hb1 r3 l1
  replace f3 := keepf hb1 f3 l1
  replace r4 := keepc hb1 r4 l1
  replace f4 := keepf hb1 f4 l1
  replace l0 := Nat.lt_of_lt_of_le l0 hb1.size
  replace l1 := Nat.lt_of_lt_of_le l1 hb1.size
  replace HW := Lib.hid (hstep HW hb1)
  clear hb1
  go_wp2_with fail
  obtain ⟨X, hX⟩ : ∃ X : World, X = set5c w1 (w.heap.size + 1) (frz a b d) A1 A2 A3 cA1 cA2 cA3 := ⟨_, rfl⟩
  have hw : set5c w1 (w.heap.size + 1) (frz a b d) A1 A2 A3 cA1 cA2 cA3 = X := hX.symm
  unfold set5c at hw
  rw [hw]
  clear hw
  have c5 := set5c_self (q := (frz a b d)) (A1 := A1) (A2 := A2) (A3 := A3) (k1 := cA1) (k2 := cA2) (k3 := cA3) r0 r1 r2 r3 r4
  rw [← hX] at c5
  have HX : Hid (Below w.heap.size w X) := by rw [hX]; exact Lib.hid (set5c_below HW.out (by omega))
  have hx := set5c_num3 (q := (frz a b d)) (A1 := A1) (A2 := A2) (A3 := A3) (k1 := cA1) (k2 := cA2) (k3 := cA3) h1 r0
  rw [← hX] at hx
  have lX : w.heap.size + 1 < X.heap.size := by rw [hX, set5c_size]; exact l1
  clear hX
  obtain ⟨Y, hY⟩ : ∃ Y : World, Y = X.alloc (.cells #[.bool (sn (na (frz a b d))), .slice A1 (ln (ab (na (frz a b d)))) cA1, .bool (sn (nb (frz a b d))), .slice A2 (ln (ab (nb (frz a b d)))) cA2, .slice A3 (ln (nd (frz a b d))) cA3] 34) := ⟨_, rfl⟩
  have b1 : Below X.heap.size X Y := by rw [hY]; exact (Below.refl _ _).alloc (Nat.le_refl _) _
  rw [← hY]
  clear hY
  have hy := hx.to b1
  have k0 := keepc b1 c5.1 lX
  have k1 := keepc b1 c5.2.1 lX
  have k2 := keepc b1 c5.2.2.1 lX
  have k3 := keepc b1 c5.2.2.2.1 lX
  have k4 := keepc b1 c5.2.2.2.2 lX
  replace HX := Lib.hid (hstep HX b1)
  clear c5 r0 r1 r2 r3 r4 f0 f1 f2 f3 f4 b1
  exact bodyPost_ret (v := .agg #[.bool (sn (na (frz a b d))), .slice A1 (ln (ab (na (frz a b d)))) cA1, .bool (sn (nb (frz a b d))), .slice A2 (ln (ab (nb (frz a b d)))) cA2, .slice A3 (ln (nd (frz a b d))) cA3]) (by simp [results, Tryz.results70, go_sem, k0, k1, k2, k3, k4]) rfl ⟨A1, A2, A3, cA1, cA2, cA3, rfl, hy, HX.out⟩

set_option maxHeartbeats 4000000 in
theorem rof_zero0 (a b : Int) (q : Cx) (w : World) (HN : ∀ w, Calls Tryz.prog 131 #[.int .i64 a, .int .i64 b, .int .i64 1] w (RetNumCE w 0 q)) :
    Calls Tryz.prog 70 #[.agg #[.int .i64 a, .int .i64 b, .int .i64 0]] w (RetNumC w q) := by
  go_enter Tryz.func70, Tryz.ntmps70
  go_wp2_with fail
  obtain ⟨W, hW⟩ : ∃ W : World, W = ((w.alloc (.cells #[.int .i64 a, .int .i64 b, .int .i64 1] 23)).alloc (.cells #[.bool false, .slice none 0 0, .bool false, .slice none 0 0, .slice none 0 0] 34)) := ⟨_, rfl⟩
  have s0_0 : W.cell? ⟨w.heap.size, 0, none⟩ = some (.int .i64 a) := by subst hW; go_simp
  have s0_1 : W.cell? ⟨w.heap.size, 1, none⟩ = some (.int .i64 b) := by subst hW; go_simp
  have s0_2 : W.cell? ⟨w.heap.size, 2, none⟩ = some (.int .i64 1) := by subst hW; go_simp
  have r0 : W.cell? ⟨w.heap.size + 1, 0, none⟩ = some (.bool false) := by subst hW; go_simp
  have f0 : W.frozen? ⟨w.heap.size + 1, 0, none⟩ = false := by subst hW; go_simp
  have r1 : W.cell? ⟨w.heap.size + 1, 1, none⟩ = some (.slice none 0 0) := by subst hW; go_simp
  have f1 : W.frozen? ⟨w.heap.size + 1, 1, none⟩ = false := by subst hW; go_simp
  have r2 : W.cell? ⟨w.heap.size + 1, 2, none⟩ = some (.bool false) := by subst hW; go_simp
  have f2 : W.frozen? ⟨w.heap.size + 1, 2, none⟩ = false := by subst hW; go_simp
  have r3 : W.cell? ⟨w.heap.size + 1, 3, none⟩ = some (.slice none 0 0) := by subst hW; go_simp
  have f3 : W.frozen? ⟨w.heap.size + 1, 3, none⟩ = false := by subst hW; go_simp
  have r4 : W.cell? ⟨w.heap.size + 1, 4, none⟩ = some (.slice none 0 0) := by subst hW; go_simp
  have f4 : W.frozen? ⟨w.heap.size + 1, 4, none⟩ = false := by subst hW; go_simp
  have HW : Below w.heap.size w W := by subst hW; exact (((Below.refl w.heap.size w).alloc (Nat.le_refl _) _).alloc (by simp) _)
  have l0 : w.heap.size < W.heap.size := by subst hW; simp <;> omega
  have l1 : w.heap.size + 1 < W.heap.size := by subst hW; simp
  have n0 : w.heap.size ≠ w.heap.size + 1 := by omega
  rw [← hW]
  clear hW
  replace HW := Lib.hid HW
  refine (HN _).mono ?_
  rintro e w1 ⟨A1, A2, A3, cA1, cA2, cA3, rfl, h1, hb1⟩
  replace s0_0 := keepc hb1 s0_0 l0
  replace s0_1 := keepc hb1 s0_1 l0
  replace s0_2 := keepc hb1 s0_2 l0
  replace r0 := keepc hb1 r0 l1
  replace f0 := keepf hb1 f0 l1
  replace r1 := keepc hb1 r1 l1
  replace f1 := keepf hb1 f1 l1
  replace r2 := keepc hb1 r2 l1
  replace f2 := keepf hb1 f2 l1
  replace r3 := keepc hb1 r3 l1
  replace f3 := keepf hb1 f3 l1
  replace r4 := keepc hb1 r4 l1
  replace f4 := keepf hb1 f4 l1
  replace l0 := Nat.lt_of_lt_of_le l0 hb1.size
  replace l1 := Nat.lt_of_lt_of_le l1 hb1.size
  replace HW := Lib.hid (hstep HW hb1)
  clear hb1
  go_wp2_with fail
  obtain ⟨X, hX⟩ : ∃ X : World, X = set5c w1 (w.heap.size + 1) q A1 A2 A3 cA1 cA2 cA3 := ⟨_, rfl⟩
  have hw : set5c w1 (w.heap.size + 1) q A1 A2 A3 cA1 cA2 cA3 = X := hX.symm
  unfold set5c at hw
  rw [hw]
  clear hw
  have c5 := set5c_self (q := q) (A1 := A1) (A2 := A2) (A3 := A3) (k1 := cA1) (k2 := cA2) (k3 := cA3) r0 r1 r2 r3 r4
  rw [← hX] at c5
  have HX : Hid (Below w.heap.size w X) := by rw [hX]; exact Lib.hid (set5c_below HW.out (by omega))
  have hx := set5c_num3 (q := q) (A1 := A1) (A2 := A2) (A3 := A3) (k1 := cA1) (k2 := cA2) (k3 := cA3) h1 r0
  rw [← hX] at hx
  have lX : w.heap.size + 1 < X.heap.size := by rw [hX, set5c_size]; exact l1
  clear hX
  obtain ⟨Y, hY⟩ : ∃ Y : World, Y = X.alloc (.cells #[.bool (sn (na q)), .slice A1 (ln (ab (na q))) cA1, .bool (sn (nb q)), .slice A2 (ln (ab (nb q))) cA2, .slice A3 (ln (nd q)) cA3] 34) := ⟨_, rfl⟩
  have b1 : Below X.heap.size X Y := by rw [hY]; exact (Below.refl _ _).alloc (Nat.le_refl _) _
  rw [← hY]
  clear hY
  have hy := hx.to b1
  have k0 := keepc b1 c5.1 lX
  have k1 := keepc b1 c5.2.1 lX
  have k2 := keepc b1 c5.2.2.1 lX
  have k3 := keepc b1 c5.2.2.2.1 lX
  have k4 := keepc b1 c5.2.2.2.2 lX
  replace HX := Lib.hid (hstep HX b1)
  clear c5 r0 r1 r2 r3 r4 f0 f1 f2 f3 f4 b1
  exact bodyPost_ret (v := .agg #[.bool (sn (na q)), .slice A1 (ln (ab (na q))) cA1, .bool (sn (nb q)), .slice A2 (ln (ab (nb q))) cA2, .slice A3 (ln (nd q)) cA3]) (by simp [results, Tryz.results70, go_sem, k0, k1, k2, k3, k4]) rfl ⟨A1, A2, A3, cA1, cA2, cA3, rfl, hy, HX.out⟩

/-- 'Of' of the reference. -/
theorem rof_any (a b d : Int) (w : World) (ha : -9223372036854775808 ≤ a ∧ a ≤ 9223372036854775807) (hb : -9223372036854775808 ≤ b ∧ b ≤ 9223372036854775807) (hd : -9223372036854775808 ≤ d ∧ d ≤ 9223372036854775807) :
    Calls Tryz.prog 70 #[.agg #[.int .i64 a, .int .i64 b, .int .i64 d]] w (RetNumC w (ofv a b d)) := by
  by_cases h : d = 0
  · subst h; exact rof_zero0 a b (frz a b 1) w (fun w => rnew_any a b 1 w ha hb (by omega) (by omega))
  · have := rof_more a b d w ha hb hd h
    unfold ofv; rw [if_neg h]; exact this
end Go.Proofs.YtgpmlhpgdalheaaGreat

namespace Go.Proofs.YtgpmlhpgdalheaaGreat
open Go.RowKit Pl
set_option linter.unusedVariables false
set_option linter.unusedSimpArgs false

/-- A slot holds a number of the reference. -/
def SlotNumC (w : World) (u : Value) (q : Cx) : Prop := ∃ A1 A2 A3 c1 c2 c3, u = .agg #[.bool (sn (na q)), .slice A1 (ln (ab (na q))) c1, .bool (sn (nb q)), .slice A2 (ln (ab (nb q))) c2, .slice A3 (ln (nd q)) c3] ∧ Num3C w A1 A2 A3 q
theorem SlotNumC.to {w w' : World} {u : Value} {q : Cx} (h : SlotNumC w u q) (hb : Below w.heap.size w w') : SlotNumC w' u q := by
  obtain ⟨A1, A2, A3, c1, c2, c3, e, h⟩ := h; exact ⟨A1, A2, A3, c1, c2, c3, e, h.to hb⟩
def Froz (w : World) (g : Nat) : Prop := w.frozen? ⟨g, 0, none⟩ = false ∧ w.frozen? ⟨g, 1, none⟩ = false ∧ w.frozen? ⟨g, 2, none⟩ = false ∧ w.frozen? ⟨g, 3, none⟩ = false ∧ w.frozen? ⟨g, 4, none⟩ = false
/-- Five cells of a variable. -/
def Var5 (w : World) (g : Nat) : Prop := g < w.heap.size ∧ (∃ c v1 v2 v3 v4, w.cell? ⟨g, 0, none⟩ = some (.bool c) ∧ w.cell? ⟨g, 1, none⟩ = some v1 ∧ w.cell? ⟨g, 2, none⟩ = some v2 ∧ w.cell? ⟨g, 3, none⟩ = some v3 ∧ w.cell? ⟨g, 4, none⟩ = some v4) ∧ Froz w g
/-- The variable holds a number of the program; of the reference. -/
def HasP (w : World) (g : Nat) (q : Cx) : Prop := g < w.heap.size ∧ (∃ A1 A2 A3, Cells5 w g q A1 A2 A3 ∧ Num3 w A1 A2 A3 q) ∧ Froz w g
def HasR (w : World) (g : Nat) (q : Cx) : Prop := g < w.heap.size ∧ (∃ A1 A2 A3 k1 k2 k3, Cells5c w g q A1 A2 A3 k1 k2 k3 ∧ Num3C w A1 A2 A3 q) ∧ Froz w g
theorem HasP.var {w : World} {g : Nat} {q : Cx} (h : HasP w g q) : Var5 w g := by
  obtain ⟨l, ⟨A1, A2, A3, ⟨c0, c1, c2, c3, c4⟩, _⟩, f⟩ := h; exact ⟨l, ⟨_, _, _, _, _, c0, c1, c2, c3, c4⟩, f⟩
theorem HasR.var {w : World} {g : Nat} {q : Cx} (h : HasR w g q) : Var5 w g := by
  obtain ⟨l, ⟨A1, A2, A3, k1, k2, k3, ⟨c0, c1, c2, c3, c4⟩, _⟩, f⟩ := h; exact ⟨l, ⟨_, _, _, _, _, c0, c1, c2, c3, c4⟩, f⟩
theorem Froz.to {w w' : World} {g : Nat} (h : Froz w g) (hb : Below w.heap.size w w') (hl : g < w.heap.size) : Froz w' g := ⟨keepf hb h.1 hl, keepf hb h.2.1 hl, keepf hb h.2.2.1 hl, keepf hb h.2.2.2.1 hl, keepf hb h.2.2.2.2 hl⟩
theorem Froz.set5 {w : World} {g p : Nat} {q : Cx} {A1 A2 A3 : Option Addr} (h : Froz w g) : Froz (set5 w p q A1 A2 A3) g := ⟨set5_frozen h.1, set5_frozen h.2.1, set5_frozen h.2.2.1, set5_frozen h.2.2.2.1, set5_frozen h.2.2.2.2⟩
theorem Froz.set5c {w : World} {g p : Nat} {q : Cx} {A1 A2 A3 : Option Addr} {k1 k2 k3 : Nat} (h : Froz w g) : Froz (set5c w p q A1 A2 A3 k1 k2 k3) g := ⟨set5c_frozen h.1, set5c_frozen h.2.1, set5c_frozen h.2.2.1, set5c_frozen h.2.2.2.1, set5c_frozen h.2.2.2.2⟩
theorem Var5.to {w w' : World} {g : Nat} (h : Var5 w g) (hb : Below w.heap.size w w') : Var5 w' g := by
  obtain ⟨l, ⟨c, v1, v2, v3, v4, c0, c1, c2, c3, c4⟩, f⟩ := h
  exact ⟨Nat.lt_of_lt_of_le l hb.size, ⟨c, v1, v2, v3, v4, keepc hb c0 l, keepc hb c1 l, keepc hb c2 l, keepc hb c3 l, keepc hb c4 l⟩, f.to hb l⟩
theorem HasP.to {w w' : World} {g : Nat} {q : Cx} (h : HasP w g q) (hb : Below w.heap.size w w') : HasP w' g q := by
  obtain ⟨l, ⟨A1, A2, A3, ⟨c0, c1, c2, c3, c4⟩, n⟩, f⟩ := h
  exact ⟨Nat.lt_of_lt_of_le l hb.size, ⟨A1, A2, A3, ⟨keepc hb c0 l, keepc hb c1 l, keepc hb c2 l, keepc hb c3 l, keepc hb c4 l⟩, n.to hb⟩, f.to hb l⟩
theorem HasR.to {w w' : World} {g : Nat} {q : Cx} (h : HasR w g q) (hb : Below w.heap.size w w') : HasR w' g q := by
  obtain ⟨l, ⟨A1, A2, A3, k1, k2, k3, ⟨c0, c1, c2, c3, c4⟩, n⟩, f⟩ := h
  exact ⟨Nat.lt_of_lt_of_le l hb.size, ⟨A1, A2, A3, k1, k2, k3, ⟨keepc hb c0 l, keepc hb c1 l, keepc hb c2 l, keepc hb c3 l, keepc hb c4 l⟩, n.to hb⟩, f.to hb l⟩
-- a store into the block p (a number of the program)
theorem set5_num3C {w : World} {p : Nat} {q r : Cx} {A1 A2 A3 B1 B2 B3 : Option Addr} {c : Bool} (h : Num3C w B1 B2 B3 r) (u : w.cell? ⟨p, 0, none⟩ = some (.bool c)) : Num3C (set5 w p q A1 A2 A3) B1 B2 B3 r := ⟨set5_nat h.1 u, set5_nat h.2.1 u, set5_nat h.2.2 u⟩
theorem set5c_num3P {w : World} {p : Nat} {q r : Cx} {A1 A2 A3 B1 B2 B3 : Option Addr} {k1 k2 k3 : Nat} {c : Bool} (h : Num3 w B1 B2 B3 r) (u : w.cell? ⟨p, 0, none⟩ = some (.bool c)) : Num3 (set5c w p q A1 A2 A3 k1 k2 k3) B1 B2 B3 r := ⟨set5c_nat h.1 u, set5c_nat h.2.1 u, set5c_nat h.2.2 u⟩
theorem SlotNumC.set5 {w : World} {u : Value} {q r : Cx} {p : Nat} {A1 A2 A3 : Option Addr} {c : Bool} (h : SlotNumC w u r) (k : w.cell? ⟨p, 0, none⟩ = some (.bool c)) : SlotNumC (set5 w p q A1 A2 A3) u r := by
  obtain ⟨B1, B2, B3, d1, d2, d3, e, h⟩ := h; exact ⟨B1, B2, B3, d1, d2, d3, e, set5_num3C h k⟩
theorem SlotNumC.set5c {w : World} {u : Value} {q r : Cx} {p : Nat} {A1 A2 A3 : Option Addr} {k1 k2 k3 : Nat} {c : Bool} (h : SlotNumC w u r) (k : w.cell? ⟨p, 0, none⟩ = some (.bool c)) : SlotNumC (set5c w p q A1 A2 A3 k1 k2 k3) u r := by
  obtain ⟨B1, B2, B3, d1, d2, d3, e, h⟩ := h; exact ⟨B1, B2, B3, d1, d2, d3, e, set5c_num3 h k⟩
theorem SlotNum.set5c {w : World} {u : Value} {q r : Cx} {p : Nat} {A1 A2 A3 : Option Addr} {k1 k2 k3 : Nat} {c : Bool} (h : SlotNum w u r) (k : w.cell? ⟨p, 0, none⟩ = some (.bool c)) : SlotNum (set5c w p q A1 A2 A3 k1 k2 k3) u r := by
  obtain ⟨B1, B2, B3, e, h⟩ := h; exact ⟨B1, B2, B3, e, set5c_num3P h k⟩
theorem HasP.set5 {w : World} {g p : Nat} {q r : Cx} {A1 A2 A3 : Option Addr} {c : Bool} (h : HasP w g r) (hn : g ≠ p) (k : w.cell? ⟨p, 0, none⟩ = some (.bool c)) : HasP (set5 w p q A1 A2 A3) g r := by
  obtain ⟨l, ⟨B1, B2, B3, ⟨c0, c1, c2, c3, c4⟩, n⟩, f⟩ := h
  exact ⟨by rw [set5_size]; exact l, ⟨B1, B2, B3, ⟨set5_cell c0 hn, set5_cell c1 hn, set5_cell c2 hn, set5_cell c3 hn, set5_cell c4 hn⟩, set5_num3 n k⟩, f.set5⟩
theorem HasP.set5c {w : World} {g p : Nat} {q r : Cx} {A1 A2 A3 : Option Addr} {k1 k2 k3 : Nat} {c : Bool} (h : HasP w g r) (hn : g ≠ p) (k : w.cell? ⟨p, 0, none⟩ = some (.bool c)) : HasP (set5c w p q A1 A2 A3 k1 k2 k3) g r := by
  obtain ⟨l, ⟨B1, B2, B3, ⟨c0, c1, c2, c3, c4⟩, n⟩, f⟩ := h
  exact ⟨by rw [set5c_size]; exact l, ⟨B1, B2, B3, ⟨set5c_cell c0 hn, set5c_cell c1 hn, set5c_cell c2 hn, set5c_cell c3 hn, set5c_cell c4 hn⟩, set5c_num3P n k⟩, f.set5c⟩
theorem HasR.set5 {w : World} {g p : Nat} {q r : Cx} {A1 A2 A3 : Option Addr} {c : Bool} (h : HasR w g r) (hn : g ≠ p) (k : w.cell? ⟨p, 0, none⟩ = some (.bool c)) : HasR (set5 w p q A1 A2 A3) g r := by
  obtain ⟨l, ⟨B1, B2, B3, d1, d2, d3, ⟨c0, c1, c2, c3, c4⟩, n⟩, f⟩ := h
  exact ⟨by rw [set5_size]; exact l, ⟨B1, B2, B3, d1, d2, d3, ⟨set5_cell c0 hn, set5_cell c1 hn, set5_cell c2 hn, set5_cell c3 hn, set5_cell c4 hn⟩, set5_num3C n k⟩, f.set5⟩
theorem HasR.set5c {w : World} {g p : Nat} {q r : Cx} {A1 A2 A3 : Option Addr} {k1 k2 k3 : Nat} {c : Bool} (h : HasR w g r) (hn : g ≠ p) (k : w.cell? ⟨p, 0, none⟩ = some (.bool c)) : HasR (set5c w p q A1 A2 A3 k1 k2 k3) g r := by
  obtain ⟨l, ⟨B1, B2, B3, d1, d2, d3, ⟨c0, c1, c2, c3, c4⟩, n⟩, f⟩ := h
  exact ⟨by rw [set5c_size]; exact l, ⟨B1, B2, B3, d1, d2, d3, ⟨set5c_cell c0 hn, set5c_cell c1 hn, set5c_cell c2 hn, set5c_cell c3 hn, set5c_cell c4 hn⟩, set5c_num3 n k⟩, f.set5c⟩
theorem Var5.set5 {w : World} {g p : Nat} {q : Cx} {A1 A2 A3 : Option Addr} (h : Var5 w g) (hn : g ≠ p) : Var5 (set5 w p q A1 A2 A3) g := by
  obtain ⟨l, ⟨c, v1, v2, v3, v4, c0, c1, c2, c3, c4⟩, f⟩ := h
  exact ⟨by rw [set5_size]; exact l, ⟨c, v1, v2, v3, v4, set5_cell c0 hn, set5_cell c1 hn, set5_cell c2 hn, set5_cell c3 hn, set5_cell c4 hn⟩, f.set5⟩
theorem Var5.set5c {w : World} {g p : Nat} {q : Cx} {A1 A2 A3 : Option Addr} {k1 k2 k3 : Nat} (h : Var5 w g) (hn : g ≠ p) : Var5 (set5c w p q A1 A2 A3 k1 k2 k3) g := by
  obtain ⟨l, ⟨c, v1, v2, v3, v4, c0, c1, c2, c3, c4⟩, f⟩ := h
  exact ⟨by rw [set5c_size]; exact l, ⟨c, v1, v2, v3, v4, set5c_cell c0 hn, set5c_cell c1 hn, set5c_cell c2 hn, set5c_cell c3 hn, set5c_cell c4 hn⟩, f.set5c⟩
theorem Var5.putP {w : World} {p : Nat} {q : Cx} {A1 A2 A3 : Option Addr} (h : Var5 w p) (hq : Num3 w A1 A2 A3 q) : HasP (Proofs.YtgpmlhpgdalheaaGreat.set5 w p q A1 A2 A3) p q := by
  obtain ⟨l, ⟨c, v1, v2, v3, v4, c0, c1, c2, c3, c4⟩, f⟩ := h
  exact ⟨by rw [set5_size]; exact l, ⟨A1, A2, A3, set5_self c0 c1 c2 c3 c4, set5_num3 hq c0⟩, f.set5⟩
theorem Var5.putR {w : World} {p : Nat} {q : Cx} {A1 A2 A3 : Option Addr} {k1 k2 k3 : Nat} (h : Var5 w p) (hq : Num3C w A1 A2 A3 q) : HasR (Proofs.YtgpmlhpgdalheaaGreat.set5c w p q A1 A2 A3 k1 k2 k3) p q := by
  obtain ⟨l, ⟨c, v1, v2, v3, v4, c0, c1, c2, c3, c4⟩, f⟩ := h
  exact ⟨by rw [set5c_size]; exact l, ⟨A1, A2, A3, k1, k2, k3, set5c_self c0 c1 c2 c3 c4, set5c_num3 hq c0⟩, f.set5c⟩
theorem Var5.new {w : World} {T : TypeId} : Var5 (w.alloc (.cells #[.bool false, .slice none 0 0, .bool false, .slice none 0 0, .slice none 0 0] T)) w.heap.size :=
  ⟨by simp, ⟨false, .slice none 0 0, .bool false, .slice none 0 0, .slice none 0 0, by go_simp, by go_simp, by go_simp, by go_simp, by go_simp⟩, by go_simp, by go_simp, by go_simp, by go_simp, by go_simp⟩
/-- What a slot points to. -/
def AtV (B : Nat) (w : World) (u : Value) : Prop := ∃ g, u = .pointer (some ⟨g, 0, none⟩) ∧ B ≤ g ∧ Var5 w g
theorem AtV.to {B : Nat} {w w' : World} {u : Value} (h : AtV B w u) (hb : Below w.heap.size w w') : AtV B w' u := by obtain ⟨g, e, h1, h2⟩ := h; exact ⟨g, e, h1, h2.to hb⟩
theorem AtV.new {B : Nat} {w : World} {T : TypeId} (hB : B ≤ w.heap.size) : AtV B (w.alloc (.cells #[.bool false, .slice none 0 0, .bool false, .slice none 0 0, .slice none 0 0] T)) (.pointer (some ⟨w.heap.size, 0, none⟩)) := ⟨_, rfl, hB, Var5.new⟩
theorem AtV.ne {B : Nat} {w : World} {u : Value} (h : AtV B w u) : u ≠ .pointer (some ⟨w.heap.size, 0, none⟩) := by
  obtain ⟨g, e, h1, h2, _⟩ := h
  intro e2; rw [e] at e2
  injection e2 with e2; injection e2 with e2; injection e2 with e2; omega
theorem AtV.set5 {B : Nat} {w : World} {u : Value} {q : Cx} {p : Nat} {A1 A2 A3 : Option Addr} (h : AtV B w u) (hn : u ≠ .pointer (some ⟨p, 0, none⟩)) : AtV B (set5 w p q A1 A2 A3) u := by
  obtain ⟨g, e, h1, h2⟩ := h; exact ⟨g, e, h1, h2.set5 (by rintro rfl; exact hn e)⟩
theorem AtV.set5c {B : Nat} {w : World} {u : Value} {q : Cx} {p : Nat} {A1 A2 A3 : Option Addr} {k1 k2 k3 : Nat} (h : AtV B w u) (hn : u ≠ .pointer (some ⟨p, 0, none⟩)) : AtV B (set5c w p q A1 A2 A3 k1 k2 k3) u := by
  obtain ⟨g, e, h1, h2⟩ := h; exact ⟨g, e, h1, h2.set5c (by rintro rfl; exact hn e)⟩
theorem set5_var {w : World} {p : Nat} {q : Cx} {A1 A2 A3 : Option Addr} (h : Var5 w p) : Var5 (set5 w p q A1 A2 A3) p := by
  obtain ⟨l, ⟨c, v1, v2, v3, v4, c0, c1, c2, c3, c4⟩, f⟩ := h
  obtain ⟨d0, d1, d2, d3, d4⟩ := set5_self (q := q) (A1 := A1) (A2 := A2) (A3 := A3) c0 c1 c2 c3 c4
  exact ⟨by rw [set5_size]; exact l, ⟨_, _, _, _, _, d0, d1, d2, d3, d4⟩, f.set5⟩
theorem set5c_var {w : World} {p : Nat} {q : Cx} {A1 A2 A3 : Option Addr} {k1 k2 k3 : Nat} (h : Var5 w p) : Var5 (set5c w p q A1 A2 A3 k1 k2 k3) p := by
  obtain ⟨l, ⟨c, v1, v2, v3, v4, c0, c1, c2, c3, c4⟩, f⟩ := h
  obtain ⟨d0, d1, d2, d3, d4⟩ := set5c_self (q := q) (A1 := A1) (A2 := A2) (A3 := A3) (k1 := k1) (k2 := k2) (k3 := k3) c0 c1 c2 c3 c4
  exact ⟨by rw [set5c_size]; exact l, ⟨_, _, _, _, _, d0, d1, d2, d3, d4⟩, f.set5c⟩
/-- A slot points to a variable that holds a number. -/
def PtP (w : World) (u : Value) (q : Cx) : Prop := ∃ g, u = .pointer (some ⟨g, 0, none⟩) ∧ HasP w g q
def PtR (w : World) (u : Value) (q : Cx) : Prop := ∃ g, u = .pointer (some ⟨g, 0, none⟩) ∧ HasR w g q
theorem PtP.to {w w' : World} {u : Value} {q : Cx} (h : PtP w u q) (hb : Below w.heap.size w w') : PtP w' u q := by obtain ⟨g, e, h⟩ := h; exact ⟨g, e, h.to hb⟩
theorem PtR.to {w w' : World} {u : Value} {q : Cx} (h : PtR w u q) (hb : Below w.heap.size w w') : PtR w' u q := by obtain ⟨g, e, h⟩ := h; exact ⟨g, e, h.to hb⟩
theorem PtP.set5 {w : World} {u : Value} {q r : Cx} {p : Nat} {A1 A2 A3 : Option Addr} {c : Bool} (h : PtP w u r) (hn : u ≠ .pointer (some ⟨p, 0, none⟩)) (k : w.cell? ⟨p, 0, none⟩ = some (.bool c)) : PtP (set5 w p q A1 A2 A3) u r := by
  obtain ⟨g, e, h⟩ := h; exact ⟨g, e, h.set5 (by rintro rfl; exact hn e) k⟩
theorem PtP.set5c {w : World} {u : Value} {q r : Cx} {p : Nat} {A1 A2 A3 : Option Addr} {k1 k2 k3 : Nat} {c : Bool} (h : PtP w u r) (hn : u ≠ .pointer (some ⟨p, 0, none⟩)) (k : w.cell? ⟨p, 0, none⟩ = some (.bool c)) : PtP (set5c w p q A1 A2 A3 k1 k2 k3) u r := by
  obtain ⟨g, e, h⟩ := h; exact ⟨g, e, h.set5c (by rintro rfl; exact hn e) k⟩
theorem PtR.set5 {w : World} {u : Value} {q r : Cx} {p : Nat} {A1 A2 A3 : Option Addr} {c : Bool} (h : PtR w u r) (hn : u ≠ .pointer (some ⟨p, 0, none⟩)) (k : w.cell? ⟨p, 0, none⟩ = some (.bool c)) : PtR (set5 w p q A1 A2 A3) u r := by
  obtain ⟨g, e, h⟩ := h; exact ⟨g, e, h.set5 (by rintro rfl; exact hn e) k⟩
theorem PtR.set5c {w : World} {u : Value} {q r : Cx} {p : Nat} {A1 A2 A3 : Option Addr} {k1 k2 k3 : Nat} {c : Bool} (h : PtR w u r) (hn : u ≠ .pointer (some ⟨p, 0, none⟩)) (k : w.cell? ⟨p, 0, none⟩ = some (.bool c)) : PtR (set5c w p q A1 A2 A3 k1 k2 k3) u r := by
  obtain ⟨g, e, h⟩ := h; exact ⟨g, e, h.set5c (by rintro rfl; exact hn e) k⟩
theorem HasP.slot {w : World} {g : Nat} {q : Cx} (h : HasP w g q) : ∃ A1 A2 A3, Cells5 w g q A1 A2 A3 ∧ Num3 w A1 A2 A3 q := h.2.1
theorem HasR.slot {w : World} {g : Nat} {q : Cx} (h : HasR w g q) : ∃ A1 A2 A3 k1 k2 k3, Cells5c w g q A1 A2 A3 k1 k2 k3 ∧ Num3C w A1 A2 A3 q := h.2.1
end Go.Proofs.YtgpmlhpgdalheaaGreat

namespace Go.Proofs.YtgpmlhpgdalheaaGreat
open Go.RowKit Pl
set_option linter.unusedVariables false
set_option linter.unusedSimpArgs false
namespace Pl
theorem ratQ_im (n d : Nat) : (ratQ n d).im = 0 := by
  unfold ratQ
  split
  · show ((0 : Int) : Rat) / _ = 0
    rw [Rat.div_def]; simp
  · rfl
theorem im_zero {x : Cx} (h : nb x = 0) : x.im = 0 := by
  have e := nb_eq x
  rw [h] at e
  have p := nd_ne x
  have : x.im * (nd x : Rat) = 0 := by rw [← e]; rfl
  rcases Rat.mul_eq_zero.1 this with h | h
  · exact h
  · exact absurd h p
theorem im_ne {x : Cx} (h : nb x ≠ 0) : x.im ≠ 0 := fun e => h (nb_of e)
theorem abs_pos {x : Cx} (h : sn (na x) = false) : 0 ≤ x.re ∧ ((ab (na x) : Nat) : Rat) / (nd x : Rat) = x.re := by
  have e := na_eq x
  have p := nd_ne x
  have h0 : 0 ≤ na x := by unfold sn at h; have := of_decide_eq_false h; omega
  have h1 : ((ab (na x) : Nat) : Rat) = (na x : Rat) := by
    rw [← Rat.intCast_natCast]; congr 1; unfold ab; omega
  have p2 : (0 : Rat) < (nd x : Rat) := by have := nd_pos x; exact_mod_cast this
  have h2 : (0 : Rat) ≤ (na x : Rat) := by exact_mod_cast h0
  refine ⟨?_, by rw [h1, e, Rat.div_def, Rat.mul_assoc, Rat.mul_inv_cancel _ p, Rat.mul_one]⟩
  rw [e] at h2
  exact Decidable.byContradiction fun q => by
    have := Rat.mul_pos (show 0 < -x.re by grind) p2
    grind
theorem abs_neg {x : Cx} (h : sn (na x) = true) : x.re < 0 ∧ ((ab (na x) : Nat) : Rat) / (nd x : Rat) = -x.re := by
  have e := na_eq x
  have p := nd_ne x
  have h0 : na x < 0 := by unfold sn at h; exact of_decide_eq_true h
  have h1 : ((ab (na x) : Nat) : Rat) = -(na x : Rat) := by
    rw [← Rat.intCast_natCast, ← Rat.intCast_neg]; congr 1; unfold ab; omega
  have p2 : (0 : Rat) < (nd x : Rat) := by have := nd_pos x; exact_mod_cast this
  have h2 : (na x : Rat) < 0 := by exact_mod_cast h0
  refine ⟨?_, by rw [h1, e, Rat.div_def]; have := Rat.mul_inv_cancel _ p; grind⟩
  rw [e] at h2
  exact Decidable.byContradiction fun q => by
    have := Rat.mul_nonneg (show 0 ≤ x.re by grind) (Rat.le_of_lt p2)
    grind
theorem nat_int_sq (a b : Int) : ((ab (a * a + b * b) : Nat) : Int) = a * a + b * b := by
  have ha : 0 ≤ a * a := by rcases Int.le_total 0 a with h | h; exact Int.mul_nonneg h h; exact Int.mul_nonneg_of_nonpos_of_nonpos h h
  have hb : 0 ≤ b * b := by rcases Int.le_total 0 b with h | h; exact Int.mul_nonneg h h; exact Int.mul_nonneg_of_nonpos_of_nonpos h h
  unfold ab; omega
theorem norm_nat (x : Cx) : ((ab (na x * na x + nb x * nb x) : Nat) : Rat) = x.nrm * ((nd x : Rat) * (nd x : Rat)) := by
  have h := nat_int_sq (na x) (nb x)
  have h2 : ((ab (na x * na x + nb x * nb x) : Nat) : Rat) = (na x : Rat) * (na x : Rat) + (nb x : Rat) * (nb x : Rat) := by
    rw [← Rat.intCast_natCast, h, Rat.intCast_add, Rat.intCast_mul, Rat.intCast_mul]
  rw [h2, na_eq, nb_eq]; unfold Cx.nrm; grind
theorem no_size {x : Cx} (h : isq (ab (na x * na x + nb x * nb x)) = false) : IsRt x false Cx.zero := by
  refine .inr ⟨rfl, rfl, no_norm fun w hw => ?_⟩
  have hr := (rat_root (ab (na x * na x + nb x * nb x)) (d := 1) (by decide)).1
  have hB : ratB (ab (na x * na x + nb x * nb x)) 1 = false := by
    unfold ratB; rw [Nat.gcd_one_right, Nat.div_one, h]; rfl
  rw [hB] at hr
  rcases hr with ⟨e, _⟩ | ⟨_, e⟩
  · cases e
  · refine e (w * (nd x : Rat)) ?_
    rw [norm_nat, Rat.div_def, ← hw]
    have e1 : ((1 : Nat) : Rat)⁻¹ = 1 := by
      have q := Rat.mul_inv_cancel ((1 : Nat) : Rat) (rat_ne (by decide))
      have q2 : ((1 : Nat) : Rat) = 1 := rfl
      rw [q2] at q ⊢; grind
    rw [e1]; grind
theorem size_ok {x : Cx} (h : isq (ab (na x * na x + nb x * nb x)) = true) : ∃ r : Rat, 0 ≤ r ∧ r * r = x.nrm ∧ (((na x + ((rt (ab (na x * na x + nb x * nb x)) : Nat) : Int) : Int)) : Rat) = (x.re + r) * (nd x : Rat) := by
  have p := nd_ne x
  have p2 : (0 : Rat) < (nd x : Rat) := by have := nd_pos x; exact_mod_cast this
  have h1 := isq_eq h
  have h2 := norm_nat x
  obtain ⟨r, hr⟩ : ∃ r, r = rt (ab (na x * na x + nb x * nb x)) := ⟨_, rfl⟩
  rw [← hr] at h1 ⊢
  have h3 : (r : Rat) * (r : Rat) = x.nrm * ((nd x : Rat) * (nd x : Rat)) := by rw [← Rat.natCast_mul, h1]; exact h2
  have hi := Rat.mul_inv_cancel _ p
  refine ⟨(r : Rat) / (nd x : Rat), ?_, ?_, ?_⟩
  · rw [Rat.div_def]; exact Rat.mul_nonneg (nat_le_rat _) (Rat.le_of_lt (Rat.inv_pos.2 p2))
  · rw [Rat.div_def]; grind
  · rw [Rat.intCast_add, na_eq, Rat.intCast_natCast, Rat.div_def]; grind
theorem sum_half {x : Cx} {S : Int} {r : Rat} (h0 : 0 ≤ x.re + r) (h : (S : Rat) = (x.re + r) * (nd x : Rat)) : ((ab S : Nat) : Rat) / ((nd x * 2 : Nat) : Rat) = (x.re + r) / 2 := by
  have p := nd_ne x
  have p2 : (0 : Rat) < (nd x : Rat) := by have := nd_pos x; exact_mod_cast this
  have hS : 0 ≤ S := by
    have : (0 : Rat) ≤ (S : Rat) := by rw [h]; exact Rat.mul_nonneg h0 (Rat.le_of_lt p2)
    exact_mod_cast this
  have h1 : ((ab S : Nat) : Rat) = (S : Rat) := by
    rw [← Rat.intCast_natCast]; congr 1; unfold ab; omega
  have hi := Rat.mul_inv_cancel _ p
  rw [h1, h, Rat.natCast_mul, Rat.div_def, Rat.div_def, Rat.inv_mul_rev]
  have e2 : ((2 : Nat) : Rat) = 2 := rfl
  rw [e2]; grind
end Pl
set_option maxRecDepth 100000 in
/-- 'x.Sqrt()'. -/
theorem sqrt_any (x : Cx) (A1 A2 A3 : Option Addr) (w : World) (hx : Num3 w A1 A2 A3 x) (hsx : sz 1000000 x) : Calls Tryz.prog 71 #[.agg #[.bool (sn (na x)), .slice A1 (ln (ab (na x))) (ln (ab (na x))), .bool (sn (nb x)), .slice A2 (ln (ab (nb x))) (ln (ab (nb x))), .slice A3 (ln (un x)) (ln (un x))]] w (RetRoot w x) := by
  by_cases h : nb x = 0
  · have hi := im_zero h
    have hr := rat_root (ab (na x)) (nd_ne0 x)
    have z1 : sz 1000000 (ratQ (ab (na x)) (nd x)) := sz_ratQ (by omega) (Nat.le_trans hsx.1 (by omega)) (Nat.le_trans hsx.2.2 (by omega)) (nd_ne0 x)
    refine sqrt_re x A1 A2 A3 w hx hsx h _ _ _ rfl rfl rfl (ratQ_im _ _) z1 (fun hs => ?_) (fun hs => ?_)
    · obtain ⟨h1, h2⟩ := abs_pos hs
      rw [h2] at hr
      exact real_pos hi h1 hr.1 hr.2
    · obtain ⟨h1, h2⟩ := abs_neg hs
      rw [h2] at hr
      exact real_neg hi h1 hr.1 hr.2
  · refine sqrt_nr x A1 A2 A3 w hx hsx h _ _ _ _ rfl rfl rfl rfl _ _ _ rfl rfl rfl _ _ rfl rfl (fun hp => no_size hp) (fun hp hb => ?_) (fun hp hb => ?_)
    · obtain ⟨r, r1, r2, r3⟩ := size_ok hp
      have hh := sum_half (r_above r1 r2).1 r3
      have hr := rat_root (ab (na x + ((rt (ab (na x * na x + nb x * nb x)) : Nat) : Int))) (d := nd x * 2) (by have := nd_pos x; omega)
      rw [hh, hb] at hr
      rcases hr.1 with ⟨q, _⟩ | ⟨_, q⟩
      · cases q
      · exact .inr ⟨rfl, rfl, no_half r1 r2 q⟩
    · obtain ⟨r, r1, r2, r3⟩ := size_ok hp
      have hh := sum_half (r_above r1 r2).1 r3
      have hr := rat_root (ab (na x + ((rt (ab (na x * na x + nb x * nb x)) : Nat) : Int))) (d := nd x * 2) (by have := nd_pos x; omega)
      rw [hh, hb] at hr
      rcases hr.1 with ⟨_, u, u1, u2, u3⟩ | ⟨q, _⟩
      · obtain ⟨k1, k2⟩ := prog_root (im_ne h) r1 r2 u1 u2
        rw [← u3] at k1 k2
        exact ⟨k1, k2⟩
      · cases q
end Go.Proofs.YtgpmlhpgdalheaaGreat

namespace Go.Proofs.YtgpmlhpgdalheaaGreat
open Go.RowKit Pl
set_option linter.unusedVariables false
set_option linter.unusedSimpArgs false

/-- An operation is taken first; its slot is named. -/
theorem takeF {P : Program} {md : Region.Mode} {ops : Array Oper} {Q : Exit → Act → World → Prop} {S : World → Prop} {i d : Nat} {oi : Oper} {v : Value} {fuel : Nat} {listed : Array Bool} {a : Act} {w : World} (hi : ops[i]? = some oi) (hd : oi.dst = some d)
    (hs : Region.noSelect ops = true) (hf : Region.free md ops listed i = true) (hr : (Region.ready md ops listed).contains i = true)
    (hQ : ∀ c a w, Q (.panic c) (a.put oi.dst v) w → Q (.panic c) a w) (hy : YieldsIf P ops S oi v a) (hS : S w)
    (h : wpAnyH P md ops Q S fuel (listed.setIfInBounds i true) (a.put (some d) v) w) : wpAnyH P md ops Q S (fuel + 1) listed a w := by
  rw [← hd] at h; exact wpAnyH_take hi hs hf hr hQ hy hS h


/-- Five cells. -/
def C5 (w : World) (g : Nat) (v0 v1 v2 v3 v4 : Value) : Prop := w.cell? ⟨g, 0, none⟩ = some v0 ∧ w.cell? ⟨g, 1, none⟩ = some v1 ∧ w.cell? ⟨g, 2, none⟩ = some v2 ∧ w.cell? ⟨g, 3, none⟩ = some v3 ∧ w.cell? ⟨g, 4, none⟩ = some v4
theorem C5.to {w w' : World} {g : Nat} {v0 v1 v2 v3 v4 : Value} (h : C5 w g v0 v1 v2 v3 v4) (hb : Below w.heap.size w w') (l : g < w.heap.size) : C5 w' g v0 v1 v2 v3 v4 :=
  ⟨keepc hb h.1 l, keepc hb h.2.1 l, keepc hb h.2.2.1 l, keepc hb h.2.2.2.1 l, keepc hb h.2.2.2.2 l⟩
theorem PtP.at' {B : Nat} {w : World} {u : Value} {q : Cx} (h : PtP w u q) (k : AtV B w u) : ∃ g, u = .pointer (some ⟨g, 0, none⟩) ∧ B ≤ g ∧ HasP w g q := by
  obtain ⟨g, e, h⟩ := h; obtain ⟨g2, e2, h2, _⟩ := k
  rw [e] at e2; injection e2 with e2; injection e2 with e2; injection e2 with e2
  exact ⟨g, e, by omega, h⟩
theorem PtR.at' {B : Nat} {w : World} {u : Value} {q : Cx} (h : PtR w u q) (k : AtV B w u) : ∃ g, u = .pointer (some ⟨g, 0, none⟩) ∧ B ≤ g ∧ HasR w g q := by
  obtain ⟨g, e, h⟩ := h; obtain ⟨g2, e2, h2, _⟩ := k
  rw [e] at e2; injection e2 with e2; injection e2 with e2; injection e2 with e2
  exact ⟨g, e, by omega, h⟩
theorem re_ge {t : Cx} (h : 0 ≤ t.re) : decide (0 ≤ cmpC t.reOf (Cx.ofInt 0)) = true := by
  rw [cmpC_rat]
  unfold cmpR Cx.reOf Cx.ofInt
  simp only []
  have e : ((0 : Int) : Rat) = 0 := rfl
  rw [e]
  grind
theorem same_e (x y : Cx) (b : Bool) (h : decide (x = y) = b) (A1 A2 A3 B1 B2 B3 : Option Addr) (w : World) (hx : Num3 w A1 A2 A3 x) (hy : Num3 w B1 B2 B3 y) (hsx : sz 137438953472 x) (hsy : sz 137438953472 y) :
    Calls Tryz.prog 48 #[.agg #[.bool (sn (na x)), .slice A1 (ln (ab (na x))) (ln (ab (na x))), .bool (sn (nb x)), .slice A2 (ln (ab (nb x))) (ln (ab (nb x))), .slice A3 (ln (un x)) (ln (un x))], .agg #[.bool (sn (na y)), .slice B1 (ln (ab (na y))) (ln (ab (na y))), .bool (sn (nb y)), .slice B2 (ln (ab (nb y))) (ln (ab (nb y))), .slice B3 (ln (un y)) (ln (un y))]] w (RetBool w b) := by
  subst h; exact same_any x y A1 A2 A3 B1 B2 B3 w hx hy hsx hsy

set_option maxRecDepth 100000 in
set_option maxHeartbeats 4000000 in
theorem numRoots_walk (a1 a2 a3 b1 b2 b3 : Int) (w : World) (ha1 : -9223372036854775808 ≤ a1 ∧ a1 ≤ 9223372036854775807) (ha2 : -9223372036854775808 ≤ a2 ∧ a2 ≤ 9223372036854775807) (ha3 : -9223372036854775808 ≤ a3 ∧ a3 ≤ 9223372036854775807) (hb1 : -9223372036854775808 ≤ b1 ∧ b1 ≤ 9223372036854775807) (hb2 : -9223372036854775808 ≤ b2 ∧ b2 ≤ 9223372036854775807) (hb3 : -9223372036854775808 ≤ b3 ∧ b3 ≤ 9223372036854775807) :
    Calls Tryz.prog 9 #[.agg #[.int .i64 a1, .int .i64 a2, .int .i64 a3], .agg #[.int .i64 b1, .int .i64 b2, .int .i64 b3]] w (RetBool w true) := by
  have HOA := Lib.hid (fun w => of_any a1 a2 a3 w ha1 ha2 ha3)
  have HOB := Lib.hid (fun w => of_any b1 b2 b3 w hb1 hb2 hb3)
  have HRA := Lib.hid (fun w => rof_any a1 a2 a3 w ha1 ha2 ha3)
  have HRB := Lib.hid (fun w => rof_any b1 b2 b3 w hb1 hb2 hb3)
  have za := sz_of ha1 ha2 ha3
  have zb := sz_of hb1 hb2 hb3
  clear ha1 ha2 ha3 hb1 hb2 hb3
  generalize ofv a1 a2 a3 = xa at *
  generalize ofv b1 b2 b3 = xb at *
  have MU := Lib.hid (fun A1 A2 A3 B1 B2 B3 (w : World) h1 h2 => mul_num xa xb A1 A2 A3 B1 B2 B3 w h1 h2 (za.mono (by omega)) (zb.mono (by omega)))
  have RM := Lib.hid (fun A1 A2 A3 B1 B2 B3 (c1 c2 c3 d1 d2 d3 : Nat) (w : World) h1 h2 => rmul_any xa xb A1 A2 A3 B1 B2 B3 c1 c2 c3 d1 d2 d3 w h1 h2 (za.mono (by omega)) (zb.mono (by omega)))
  have zx : sz 5 (xa.mul xb) := sz_mul za zb
  have zaa : sz 5 (xa.mul xa) := sz_mul za za
  obtain ⟨x, hxd⟩ : ∃ x, x = xa.mul xb := ⟨_, rfl⟩
  rw [← hxd] at MU RM zx
  clear hxd zb
  go_enter Tryz.func9, Tryz.ntmps9
  go_upto_region 1 with fail
  obtain ⟨W, hW⟩ : ∃ W : World, W = (w.alloc (.cells #[.int .i64 a1, .int .i64 a2, .int .i64 a3] 23)).alloc (.cells #[.int .i64 b1, .int .i64 b2, .int .i64 b3] 23) := ⟨_, rfl⟩
  have b0_0 : W.cell? ⟨w.heap.size, 0, none⟩ = some (.int .i64 a1) := by subst hW; go_simp
  have b0_1 : W.cell? ⟨w.heap.size, 1, none⟩ = some (.int .i64 a2) := by subst hW; go_simp
  have b0_2 : W.cell? ⟨w.heap.size, 2, none⟩ = some (.int .i64 a3) := by subst hW; go_simp
  have b1_0 : W.cell? ⟨w.heap.size + 1, 0, none⟩ = some (.int .i64 b1) := by subst hW; go_simp
  have b1_1 : W.cell? ⟨w.heap.size + 1, 1, none⟩ = some (.int .i64 b2) := by subst hW; go_simp
  have b1_2 : W.cell? ⟨w.heap.size + 1, 2, none⟩ = some (.int .i64 b3) := by subst hW; go_simp
  have HW : Below w.heap.size w W := by subst hW; exact ((Below.refl _ _).alloc (Nat.le_refl _) _).alloc (by simp) _
  have lW : w.heap.size + 1 < W.heap.size := by subst hW; simp
  rw [← hW]
  clear hW
  obtain ⟨B0, hB0⟩ : ∃ B, B = W.heap.size := ⟨_, rfl⟩
  have l8 : w.heap.size + 1 < B0 := by rw [hB0]; exact lW
  go_cut [5, 6] (fun p q wx => ∃ g5 g6, p = .pointer (some ⟨g5, 0, none⟩) ∧ q = .pointer (some ⟨g6, 0, none⟩) ∧ B0 ≤ g5 ∧ B0 ≤ g6 ∧ g5 ≠ g6 ∧ HasP wx g5 x ∧ HasR wx g6 x ∧ (wx.cell? ⟨w.heap.size, 0, none⟩ = some (.int .i64 a1) ∧ wx.cell? ⟨w.heap.size, 1, none⟩ = some (.int .i64 a2) ∧ wx.cell? ⟨w.heap.size, 2, none⟩ = some (.int .i64 a3)) ∧ Below w.heap.size w wx)
  case first =>
    refine wp_region_any (by kernel_rfl) ?_
    refine wpAny_inv (fun l a' w' => ∃ d0 q1 d2 q3 q4 d5 q6 d7 q8 q9 p10 p11 : Value, a' = ⟨#[.agg #[.int .i64 a1, .int .i64 a2, .int .i64 a3], .agg #[.int .i64 b1, .int .i64 b2, .int .i64 b3], .pointer (some ⟨w.heap.size, 0, none⟩), .pointer (some ⟨w.heap.size + 1, 0, none⟩), .bool false, p10, p11, undef, undef, undef, undef, undef, undef, d0, q1, d2, q3, q4, d5, q6, d7, q8, q9, undef, undef, undef, undef, undef, undef, undef, undef, undef, undef, undef, undef, undef, undef, undef, undef, undef, undef, undef, undef, undef, undef, undef, undef, undef, undef, undef, undef, undef, undef, undef, undef, undef, undef, undef, undef, undef, undef, undef, undef, undef, undef, undef, undef, undef, undef, undef, undef, undef, undef, undef, undef, undef, undef, undef, undef, undef, undef, undef, undef, undef], []⟩ ∧ Below w.heap.size w w' ∧ w'.cell? ⟨w.heap.size, 0, none⟩ = some (.int .i64 a1) ∧ w'.cell? ⟨w.heap.size, 1, none⟩ = some (.int .i64 a2) ∧ w'.cell? ⟨w.heap.size, 2, none⟩ = some (.int .i64 a3) ∧ w'.cell? ⟨w.heap.size + 1, 0, none⟩ = some (.int .i64 b1) ∧ w'.cell? ⟨w.heap.size + 1, 1, none⟩ = some (.int .i64 b2) ∧ w'.cell? ⟨w.heap.size + 1, 2, none⟩ = some (.int .i64 b3) ∧ B0 ≤ w'.heap.size ∧ (on l 0 = true → d0 = .agg #[.int .i64 a1, .int .i64 a2, .int .i64 a3]) ∧ (on l 2 = true → d2 = .agg #[.int .i64 b1, .int .i64 b2, .int .i64 b3]) ∧ (on l 5 = true → d5 = .agg #[.int .i64 a1, .int .i64 a2, .int .i64 a3]) ∧ (on l 7 = true → d7 = .agg #[.int .i64 b1, .int .i64 b2, .int .i64 b3]) ∧ (on l 1 = true → SlotNum w' q1 (xa)) ∧ (on l 3 = true → SlotNum w' q3 (xb)) ∧ (on l 4 = true → SlotNum w' q4 (x)) ∧ (on l 6 = true → SlotNumC w' q6 (xa)) ∧ (on l 8 = true → SlotNumC w' q8 (xb)) ∧ (on l 9 = true → SlotNumC w' q9 (x)) ∧ (on l 10 = true → AtV B0 w' p10) ∧ (on l 11 = true → AtV B0 w' p11) ∧ (on l 10 = true → on l 11 = true → p10 ≠ p11) ∧ (on l 12 = true → PtP w' p10 (x)) ∧ (on l 12 = true → on l 10 = true) ∧ (on l 13 = true → PtR w' p11 (x)) ∧ (on l 13 = true → on l 11 = true) ∧ l.size = 14) ?_ ?_ _ _ _ _ (by decide) ?_
    · intro l a' W' i hi hI
      obtain ⟨d0, q1, d2, q3, q4, d5, q6, d7, q8, q9, p10, p11, rfl, hB, b0_0, b0_1, b0_2, b1_0, b1_1, b1_2, lB, hd0, hd2, hd5, hd7, hq1, hq3, hq4, hq6, hq8, hq9, hp10, hp11, hn10_11, hs12, ho12, hs13, ho13, hz⟩ := hI
      obtain ⟨hlt, hoff, hpre⟩ := ready_pre hi
      have hc : i = 0 ∨ i = 1 ∨ i = 2 ∨ i = 3 ∨ i = 4 ∨ i = 5 ∨ i = 6 ∨ i = 7 ∨ i = 8 ∨ i = 9 ∨ i = 10 ∨ i = 11 ∨ i = 12 ∨ i = 13 := by have : i < 14 := hlt; omega
      clear hi hlt
      rcases hc with rfl | rfl | rfl | rfl | rfl | rfl | rfl | rfl | rfl | rfl | rfl | rfl | rfl | rfl
      · have hp := hpre _ rfl
        simp [Region.binds] at hp
        clear hpre
        clear hp
        refine wpOp_go rfl rfl (fun K hK => ?_)
        go_simp
        refine hK _ _ ?_
        clear hK K
        exact ⟨_, _, _, _, _, _, _, _, _, _, _, _, rfl, hB, b0_0, b0_1, b0_2, b1_0, b1_1, b1_2, lB, fun _ => rfl, fun h => (hd2 (on_ne h (by decide))), fun h => (hd5 (on_ne h (by decide))), fun h => (hd7 (on_ne h (by decide))), fun h => (hq1 (on_ne h (by decide))), fun h => (hq3 (on_ne h (by decide))), fun h => (hq4 (on_ne h (by decide))), fun h => (hq6 (on_ne h (by decide))), fun h => (hq8 (on_ne h (by decide))), fun h => (hq9 (on_ne h (by decide))), fun h => (hp10 (on_ne h (by decide))), fun h => (hp11 (on_ne h (by decide))), fun h h2 => hn10_11 (on_ne h (by decide)) (on_ne h2 (by decide)), fun h => (hs12 (on_ne h (by decide))), fun h => on_mono (ho12 (on_ne h (by decide))), fun h => (hs13 (on_ne h (by decide))), fun h => on_mono (ho13 (on_ne h (by decide))), by simp [hz]⟩
      · have hp := hpre _ rfl
        simp [Region.binds] at hp
        clear hpre
        have e0 : d0 = .agg #[.int .i64 a1, .int .i64 a2, .int .i64 a3] := hd0 (by first | exact hp | exact hp.1 | exact hp.2 | simp [hp])
        subst e0
        clear hp
        refine wpOp_go rfl rfl (fun K hK => ?_)
        go_wp2_with (first | (go_at_call 58; refine (HOA.out _).mono ?_; rintro e w1 ⟨A1, A2, A3, rfl, h1, hb⟩))
        try refine hK _ _ ?_
        exact ⟨_, _, _, _, _, _, _, _, _, _, _, _, rfl, hB.trans (hb.mono hB.size), keepc hb b0_0 (by omega), keepc hb b0_1 (by omega), keepc hb b0_2 (by omega), keepc hb b1_0 (by omega), keepc hb b1_1 (by omega), keepc hb b1_2 (by omega), Nat.le_trans lB hb.size, fun h => rfl, fun h => hd2 (on_ne h (by decide)), fun h => hd5 (on_ne h (by decide)), fun h => hd7 (on_ne h (by decide)), fun _ => ⟨A1, A2, A3, rfl, h1⟩, fun h => (hq3 (on_ne h (by decide))).to hb, fun h => (hq4 (on_ne h (by decide))).to hb, fun h => (hq6 (on_ne h (by decide))).to hb, fun h => (hq8 (on_ne h (by decide))).to hb, fun h => (hq9 (on_ne h (by decide))).to hb, fun h => (hp10 (on_ne h (by decide))).to hb, fun h => (hp11 (on_ne h (by decide))).to hb, fun h h2 => hn10_11 (on_ne h (by decide)) (on_ne h2 (by decide)), fun h => (hs12 (on_ne h (by decide))).to hb, fun h => on_mono (ho12 (on_ne h (by decide))), fun h => (hs13 (on_ne h (by decide))).to hb, fun h => on_mono (ho13 (on_ne h (by decide))), by simp [hz]⟩
      · have hp := hpre _ rfl
        simp [Region.binds] at hp
        clear hpre
        clear hp
        refine wpOp_go rfl rfl (fun K hK => ?_)
        go_simp
        refine hK _ _ ?_
        clear hK K
        exact ⟨_, _, _, _, _, _, _, _, _, _, _, _, rfl, hB, b0_0, b0_1, b0_2, b1_0, b1_1, b1_2, lB, fun h => (hd0 (on_ne h (by decide))), fun _ => rfl, fun h => (hd5 (on_ne h (by decide))), fun h => (hd7 (on_ne h (by decide))), fun h => (hq1 (on_ne h (by decide))), fun h => (hq3 (on_ne h (by decide))), fun h => (hq4 (on_ne h (by decide))), fun h => (hq6 (on_ne h (by decide))), fun h => (hq8 (on_ne h (by decide))), fun h => (hq9 (on_ne h (by decide))), fun h => (hp10 (on_ne h (by decide))), fun h => (hp11 (on_ne h (by decide))), fun h h2 => hn10_11 (on_ne h (by decide)) (on_ne h2 (by decide)), fun h => (hs12 (on_ne h (by decide))), fun h => on_mono (ho12 (on_ne h (by decide))), fun h => (hs13 (on_ne h (by decide))), fun h => on_mono (ho13 (on_ne h (by decide))), by simp [hz]⟩
      · have hp := hpre _ rfl
        simp [Region.binds] at hp
        clear hpre
        have e0 : d2 = .agg #[.int .i64 b1, .int .i64 b2, .int .i64 b3] := hd2 (by first | exact hp | exact hp.1 | exact hp.2 | simp [hp])
        subst e0
        clear hp
        refine wpOp_go rfl rfl (fun K hK => ?_)
        go_wp2_with (first | (go_at_call 58; refine (HOB.out _).mono ?_; rintro e w1 ⟨A1, A2, A3, rfl, h1, hb⟩))
        try refine hK _ _ ?_
        exact ⟨_, _, _, _, _, _, _, _, _, _, _, _, rfl, hB.trans (hb.mono hB.size), keepc hb b0_0 (by omega), keepc hb b0_1 (by omega), keepc hb b0_2 (by omega), keepc hb b1_0 (by omega), keepc hb b1_1 (by omega), keepc hb b1_2 (by omega), Nat.le_trans lB hb.size, fun h => hd0 (on_ne h (by decide)), fun h => rfl, fun h => hd5 (on_ne h (by decide)), fun h => hd7 (on_ne h (by decide)), fun h => (hq1 (on_ne h (by decide))).to hb, fun _ => ⟨A1, A2, A3, rfl, h1⟩, fun h => (hq4 (on_ne h (by decide))).to hb, fun h => (hq6 (on_ne h (by decide))).to hb, fun h => (hq8 (on_ne h (by decide))).to hb, fun h => (hq9 (on_ne h (by decide))).to hb, fun h => (hp10 (on_ne h (by decide))).to hb, fun h => (hp11 (on_ne h (by decide))).to hb, fun h h2 => hn10_11 (on_ne h (by decide)) (on_ne h2 (by decide)), fun h => (hs12 (on_ne h (by decide))).to hb, fun h => on_mono (ho12 (on_ne h (by decide))), fun h => (hs13 (on_ne h (by decide))).to hb, fun h => on_mono (ho13 (on_ne h (by decide))), by simp [hz]⟩
      · have hp := hpre _ rfl
        simp [Region.binds] at hp
        clear hpre
        obtain ⟨X1, X2, X3, e1, n1⟩ := hq1 (by simp [hp])
        obtain ⟨Y1, Y2, Y3, e2, n2⟩ := hq3 (by simp [hp])
        subst e1
        subst e2
        clear hp
        refine wpOp_go rfl rfl (fun K hK => ?_)
        go_wp2_with (first | (go_at_call 30; refine (MU.out X1 X2 X3 Y1 Y2 Y3 _ n1 n2).mono ?_; rintro e w1 ⟨A1, A2, A3, rfl, h1, hb⟩))
        try refine hK _ _ ?_
        exact ⟨_, _, _, _, _, _, _, _, _, _, _, _, rfl, hB.trans (hb.mono hB.size), keepc hb b0_0 (by omega), keepc hb b0_1 (by omega), keepc hb b0_2 (by omega), keepc hb b1_0 (by omega), keepc hb b1_1 (by omega), keepc hb b1_2 (by omega), Nat.le_trans lB hb.size, fun h => hd0 (on_ne h (by decide)), fun h => hd2 (on_ne h (by decide)), fun h => hd5 (on_ne h (by decide)), fun h => hd7 (on_ne h (by decide)), fun h => (hq1 (on_ne h (by decide))).to hb, fun h => (hq3 (on_ne h (by decide))).to hb, fun _ => ⟨A1, A2, A3, rfl, h1⟩, fun h => (hq6 (on_ne h (by decide))).to hb, fun h => (hq8 (on_ne h (by decide))).to hb, fun h => (hq9 (on_ne h (by decide))).to hb, fun h => (hp10 (on_ne h (by decide))).to hb, fun h => (hp11 (on_ne h (by decide))).to hb, fun h h2 => hn10_11 (on_ne h (by decide)) (on_ne h2 (by decide)), fun h => (hs12 (on_ne h (by decide))).to hb, fun h => on_mono (ho12 (on_ne h (by decide))), fun h => (hs13 (on_ne h (by decide))).to hb, fun h => on_mono (ho13 (on_ne h (by decide))), by simp [hz]⟩
      · have hp := hpre _ rfl
        simp [Region.binds] at hp
        clear hpre
        clear hp
        refine wpOp_go rfl rfl (fun K hK => ?_)
        go_simp
        refine hK _ _ ?_
        clear hK K
        exact ⟨_, _, _, _, _, _, _, _, _, _, _, _, rfl, hB, b0_0, b0_1, b0_2, b1_0, b1_1, b1_2, lB, fun h => (hd0 (on_ne h (by decide))), fun h => (hd2 (on_ne h (by decide))), fun _ => rfl, fun h => (hd7 (on_ne h (by decide))), fun h => (hq1 (on_ne h (by decide))), fun h => (hq3 (on_ne h (by decide))), fun h => (hq4 (on_ne h (by decide))), fun h => (hq6 (on_ne h (by decide))), fun h => (hq8 (on_ne h (by decide))), fun h => (hq9 (on_ne h (by decide))), fun h => (hp10 (on_ne h (by decide))), fun h => (hp11 (on_ne h (by decide))), fun h h2 => hn10_11 (on_ne h (by decide)) (on_ne h2 (by decide)), fun h => (hs12 (on_ne h (by decide))), fun h => on_mono (ho12 (on_ne h (by decide))), fun h => (hs13 (on_ne h (by decide))), fun h => on_mono (ho13 (on_ne h (by decide))), by simp [hz]⟩
      · have hp := hpre _ rfl
        simp [Region.binds] at hp
        clear hpre
        have e0 : d5 = .agg #[.int .i64 a1, .int .i64 a2, .int .i64 a3] := hd5 (by first | exact hp | exact hp.1 | exact hp.2 | simp [hp])
        subst e0
        clear hp
        refine wpOp_go rfl rfl (fun K hK => ?_)
        go_wp2_with (first | (go_at_call 70; refine (HRA.out _).mono ?_; rintro e w1 ⟨A1, A2, A3, k1, k2, k3, rfl, h1, hb⟩))
        try refine hK _ _ ?_
        exact ⟨_, _, _, _, _, _, _, _, _, _, _, _, rfl, hB.trans (hb.mono hB.size), keepc hb b0_0 (by omega), keepc hb b0_1 (by omega), keepc hb b0_2 (by omega), keepc hb b1_0 (by omega), keepc hb b1_1 (by omega), keepc hb b1_2 (by omega), Nat.le_trans lB hb.size, fun h => hd0 (on_ne h (by decide)), fun h => hd2 (on_ne h (by decide)), fun h => rfl, fun h => hd7 (on_ne h (by decide)), fun h => (hq1 (on_ne h (by decide))).to hb, fun h => (hq3 (on_ne h (by decide))).to hb, fun h => (hq4 (on_ne h (by decide))).to hb, fun _ => ⟨A1, A2, A3, k1, k2, k3, rfl, h1⟩, fun h => (hq8 (on_ne h (by decide))).to hb, fun h => (hq9 (on_ne h (by decide))).to hb, fun h => (hp10 (on_ne h (by decide))).to hb, fun h => (hp11 (on_ne h (by decide))).to hb, fun h h2 => hn10_11 (on_ne h (by decide)) (on_ne h2 (by decide)), fun h => (hs12 (on_ne h (by decide))).to hb, fun h => on_mono (ho12 (on_ne h (by decide))), fun h => (hs13 (on_ne h (by decide))).to hb, fun h => on_mono (ho13 (on_ne h (by decide))), by simp [hz]⟩
      · have hp := hpre _ rfl
        simp [Region.binds] at hp
        clear hpre
        clear hp
        refine wpOp_go rfl rfl (fun K hK => ?_)
        go_simp
        refine hK _ _ ?_
        clear hK K
        exact ⟨_, _, _, _, _, _, _, _, _, _, _, _, rfl, hB, b0_0, b0_1, b0_2, b1_0, b1_1, b1_2, lB, fun h => (hd0 (on_ne h (by decide))), fun h => (hd2 (on_ne h (by decide))), fun h => (hd5 (on_ne h (by decide))), fun _ => rfl, fun h => (hq1 (on_ne h (by decide))), fun h => (hq3 (on_ne h (by decide))), fun h => (hq4 (on_ne h (by decide))), fun h => (hq6 (on_ne h (by decide))), fun h => (hq8 (on_ne h (by decide))), fun h => (hq9 (on_ne h (by decide))), fun h => (hp10 (on_ne h (by decide))), fun h => (hp11 (on_ne h (by decide))), fun h h2 => hn10_11 (on_ne h (by decide)) (on_ne h2 (by decide)), fun h => (hs12 (on_ne h (by decide))), fun h => on_mono (ho12 (on_ne h (by decide))), fun h => (hs13 (on_ne h (by decide))), fun h => on_mono (ho13 (on_ne h (by decide))), by simp [hz]⟩
      · have hp := hpre _ rfl
        simp [Region.binds] at hp
        clear hpre
        have e0 : d7 = .agg #[.int .i64 b1, .int .i64 b2, .int .i64 b3] := hd7 (by first | exact hp | exact hp.1 | exact hp.2 | simp [hp])
        subst e0
        clear hp
        refine wpOp_go rfl rfl (fun K hK => ?_)
        go_wp2_with (first | (go_at_call 70; refine (HRB.out _).mono ?_; rintro e w1 ⟨A1, A2, A3, k1, k2, k3, rfl, h1, hb⟩))
        try refine hK _ _ ?_
        exact ⟨_, _, _, _, _, _, _, _, _, _, _, _, rfl, hB.trans (hb.mono hB.size), keepc hb b0_0 (by omega), keepc hb b0_1 (by omega), keepc hb b0_2 (by omega), keepc hb b1_0 (by omega), keepc hb b1_1 (by omega), keepc hb b1_2 (by omega), Nat.le_trans lB hb.size, fun h => hd0 (on_ne h (by decide)), fun h => hd2 (on_ne h (by decide)), fun h => hd5 (on_ne h (by decide)), fun h => rfl, fun h => (hq1 (on_ne h (by decide))).to hb, fun h => (hq3 (on_ne h (by decide))).to hb, fun h => (hq4 (on_ne h (by decide))).to hb, fun h => (hq6 (on_ne h (by decide))).to hb, fun _ => ⟨A1, A2, A3, k1, k2, k3, rfl, h1⟩, fun h => (hq9 (on_ne h (by decide))).to hb, fun h => (hp10 (on_ne h (by decide))).to hb, fun h => (hp11 (on_ne h (by decide))).to hb, fun h h2 => hn10_11 (on_ne h (by decide)) (on_ne h2 (by decide)), fun h => (hs12 (on_ne h (by decide))).to hb, fun h => on_mono (ho12 (on_ne h (by decide))), fun h => (hs13 (on_ne h (by decide))).to hb, fun h => on_mono (ho13 (on_ne h (by decide))), by simp [hz]⟩
      · have hp := hpre _ rfl
        simp [Region.binds] at hp
        clear hpre
        obtain ⟨X1, X2, X3, x1, x2, x3, e1, n1⟩ := hq6 (by simp [hp])
        obtain ⟨Y1, Y2, Y3, y1, y2, y3, e2, n2⟩ := hq8 (by simp [hp])
        subst e1
        subst e2
        clear hp
        refine wpOp_go rfl rfl (fun K hK => ?_)
        go_wp2_with (first | (go_at_call 31; refine (RM.out X1 X2 X3 Y1 Y2 Y3 x1 x2 x3 y1 y2 y3 _ n1 n2).mono ?_; rintro e w1 ⟨A1, A2, A3, k1, k2, k3, rfl, h1, hb⟩))
        try refine hK _ _ ?_
        exact ⟨_, _, _, _, _, _, _, _, _, _, _, _, rfl, hB.trans (hb.mono hB.size), keepc hb b0_0 (by omega), keepc hb b0_1 (by omega), keepc hb b0_2 (by omega), keepc hb b1_0 (by omega), keepc hb b1_1 (by omega), keepc hb b1_2 (by omega), Nat.le_trans lB hb.size, fun h => hd0 (on_ne h (by decide)), fun h => hd2 (on_ne h (by decide)), fun h => hd5 (on_ne h (by decide)), fun h => hd7 (on_ne h (by decide)), fun h => (hq1 (on_ne h (by decide))).to hb, fun h => (hq3 (on_ne h (by decide))).to hb, fun h => (hq4 (on_ne h (by decide))).to hb, fun h => (hq6 (on_ne h (by decide))).to hb, fun h => (hq8 (on_ne h (by decide))).to hb, fun _ => ⟨A1, A2, A3, k1, k2, k3, rfl, h1⟩, fun h => (hp10 (on_ne h (by decide))).to hb, fun h => (hp11 (on_ne h (by decide))).to hb, fun h h2 => hn10_11 (on_ne h (by decide)) (on_ne h2 (by decide)), fun h => (hs12 (on_ne h (by decide))).to hb, fun h => on_mono (ho12 (on_ne h (by decide))), fun h => (hs13 (on_ne h (by decide))).to hb, fun h => on_mono (ho13 (on_ne h (by decide))), by simp [hz]⟩
      · have hp := hpre _ rfl
        simp [Region.binds] at hp
        clear hpre
        clear hp
        refine wpOp_go rfl rfl (fun K hK => ?_)
        go_simp
        refine hK _ _ ?_
        clear hK K
        have hb : Below W'.heap.size W' (W'.alloc (.cells #[.bool false, .slice none 0 0, .bool false, .slice none 0 0, .slice none 0 0] 30)) := (Below.refl _ _).alloc (Nat.le_refl _) _
        exact ⟨_, _, _, _, _, _, _, _, _, _, _, _, rfl, hB.trans (hb.mono hB.size), keepc hb b0_0 (by omega), keepc hb b0_1 (by omega), keepc hb b0_2 (by omega), keepc hb b1_0 (by omega), keepc hb b1_1 (by omega), keepc hb b1_2 (by omega), Nat.le_trans lB hb.size, fun h => hd0 (on_ne h (by decide)), fun h => hd2 (on_ne h (by decide)), fun h => hd5 (on_ne h (by decide)), fun h => hd7 (on_ne h (by decide)), fun h => (hq1 (on_ne h (by decide))).to hb, fun h => (hq3 (on_ne h (by decide))).to hb, fun h => (hq4 (on_ne h (by decide))).to hb, fun h => (hq6 (on_ne h (by decide))).to hb, fun h => (hq8 (on_ne h (by decide))).to hb, fun h => (hq9 (on_ne h (by decide))).to hb, fun _ => AtV.new lB, fun h => (hp11 (on_ne h (by decide))).to hb, fun h h2 => Ne.symm (hp11 (on_ne h2 (by decide))).ne, fun h => absurd (ho12 (on_ne h (by decide))) (off hoff), fun h => absurd (ho12 (on_ne h (by decide))) (off hoff), fun h => (hs13 (on_ne h (by decide))).to hb, fun h => on_mono (ho13 (on_ne h (by decide))), by simp [hz]⟩
      · have hp := hpre _ rfl
        simp [Region.binds] at hp
        clear hpre
        clear hp
        refine wpOp_go rfl rfl (fun K hK => ?_)
        go_simp
        refine hK _ _ ?_
        clear hK K
        have hb : Below W'.heap.size W' (W'.alloc (.cells #[.bool false, .slice none 0 0, .bool false, .slice none 0 0, .slice none 0 0] 34)) := (Below.refl _ _).alloc (Nat.le_refl _) _
        exact ⟨_, _, _, _, _, _, _, _, _, _, _, _, rfl, hB.trans (hb.mono hB.size), keepc hb b0_0 (by omega), keepc hb b0_1 (by omega), keepc hb b0_2 (by omega), keepc hb b1_0 (by omega), keepc hb b1_1 (by omega), keepc hb b1_2 (by omega), Nat.le_trans lB hb.size, fun h => hd0 (on_ne h (by decide)), fun h => hd2 (on_ne h (by decide)), fun h => hd5 (on_ne h (by decide)), fun h => hd7 (on_ne h (by decide)), fun h => (hq1 (on_ne h (by decide))).to hb, fun h => (hq3 (on_ne h (by decide))).to hb, fun h => (hq4 (on_ne h (by decide))).to hb, fun h => (hq6 (on_ne h (by decide))).to hb, fun h => (hq8 (on_ne h (by decide))).to hb, fun h => (hq9 (on_ne h (by decide))).to hb, fun h => (hp10 (on_ne h (by decide))).to hb, fun _ => AtV.new lB, fun h h2 => (hp10 (on_ne h (by decide))).ne, fun h => (hs12 (on_ne h (by decide))).to hb, fun h => on_mono (ho12 (on_ne h (by decide))), fun h => absurd (ho13 (on_ne h (by decide))) (off hoff), fun h => absurd (ho13 (on_ne h (by decide))) (off hoff), by simp [hz]⟩
      · have hp := hpre _ rfl
        simp [Region.binds] at hp
        clear hpre
        have hv := hp10 (by simp [hp])
        obtain ⟨g, e2, g1, hv2⟩ := hv
        have hv0 := hv2
        obtain ⟨g2, ⟨c, v1, v2, v3, v4, c0, c1, c2, c3, c4⟩, ⟨f0, f1, f2, f3, f4⟩⟩ := hv2
        obtain ⟨A1, A2, A3, e1, n1⟩ := hq4 (by simp [hp])
        subst e1; subst e2
        refine wpOp_go rfl rfl (fun K hK => ?_)
        go_simp
        refine hK _ _ ?_
        clear hK K
        obtain ⟨X, hX⟩ : ∃ X : World, X = set5 W' (g) (x) A1 A2 A3 := ⟨_, rfl⟩
        have hw : set5 W' (g) (x) A1 A2 A3 = X := hX.symm
        unfold set5 at hw
        rw [hw]
        clear hw
        subst hX
        exact ⟨_, _, _, _, _, _, _, _, _, _, _, _, rfl, set5_below hB (by omega), set5_cell b0_0 (by omega), set5_cell b0_1 (by omega), set5_cell b0_2 (by omega), set5_cell b1_0 (by omega), set5_cell b1_1 (by omega), set5_cell b1_2 (by omega), by rw [set5_size]; exact lB, fun h => by first | exact hd0 (on_ne h (by decide)) | rfl, fun h => by first | exact hd2 (on_ne h (by decide)) | rfl, fun h => by first | exact hd5 (on_ne h (by decide)) | rfl, fun h => by first | exact hd7 (on_ne h (by decide)) | rfl, fun h => (hq1 (on_ne h (by decide))).set5 c0, fun h => (hq3 (on_ne h (by decide))).set5 c0, fun h => (hq4 (on_ne h (by decide))).set5 c0, fun h => (hq6 (on_ne h (by decide))).set5 c0, fun h => (hq8 (on_ne h (by decide))).set5 c0, fun h => (hq9 (on_ne h (by decide))).set5 c0, fun h => ⟨g, rfl, g1, set5_var hv0⟩, fun h => (hp11 (on_ne h (by decide))).set5 (Ne.symm (hn10_11 (by simp [hp]) (by simp [hp]))), fun h h2 => hn10_11 (on_ne h (by decide)) (on_ne h2 (by decide)), fun h => ⟨g, rfl, hv0.putP n1⟩, fun _ => on_mono (by simp [hp]), fun h => (hs13 (on_ne h (by decide))).set5 (Ne.symm (hn10_11 (by simp [hp]) (by simp [hp]))) c0, fun h => on_mono (ho13 (on_ne h (by decide))), by simp [hz]⟩
      · have hp := hpre _ rfl
        simp [Region.binds] at hp
        clear hpre
        have hv := hp11 (by simp [hp])
        obtain ⟨g, e2, g1, hv2⟩ := hv
        have hv0 := hv2
        obtain ⟨g2, ⟨c, v1, v2, v3, v4, c0, c1, c2, c3, c4⟩, ⟨f0, f1, f2, f3, f4⟩⟩ := hv2
        obtain ⟨A1, A2, A3, k1, k2, k3, e1, n1⟩ := hq9 (by simp [hp])
        subst e1; subst e2
        refine wpOp_go rfl rfl (fun K hK => ?_)
        go_simp
        refine hK _ _ ?_
        clear hK K
        obtain ⟨X, hX⟩ : ∃ X : World, X = set5c W' (g) (x) A1 A2 A3 k1 k2 k3 := ⟨_, rfl⟩
        have hw : set5c W' (g) (x) A1 A2 A3 k1 k2 k3 = X := hX.symm
        unfold set5c at hw
        rw [hw]
        clear hw
        subst hX
        exact ⟨_, _, _, _, _, _, _, _, _, _, _, _, rfl, set5c_below hB (by omega), set5c_cell b0_0 (by omega), set5c_cell b0_1 (by omega), set5c_cell b0_2 (by omega), set5c_cell b1_0 (by omega), set5c_cell b1_1 (by omega), set5c_cell b1_2 (by omega), by rw [set5c_size]; exact lB, fun h => by first | exact hd0 (on_ne h (by decide)) | rfl, fun h => by first | exact hd2 (on_ne h (by decide)) | rfl, fun h => by first | exact hd5 (on_ne h (by decide)) | rfl, fun h => by first | exact hd7 (on_ne h (by decide)) | rfl, fun h => (hq1 (on_ne h (by decide))).set5c c0, fun h => (hq3 (on_ne h (by decide))).set5c c0, fun h => (hq4 (on_ne h (by decide))).set5c c0, fun h => (hq6 (on_ne h (by decide))).set5c c0, fun h => (hq8 (on_ne h (by decide))).set5c c0, fun h => (hq9 (on_ne h (by decide))).set5c c0, fun h => (hp10 (on_ne h (by decide))).set5c (hn10_11 (by simp [hp]) (by simp [hp])), fun h => ⟨g, rfl, g1, set5c_var hv0⟩, fun h h2 => hn10_11 (on_ne h (by decide)) (on_ne h2 (by decide)), fun h => (hs12 (on_ne h (by decide))).set5c (hn10_11 (by simp [hp]) (by simp [hp])) c0, fun h => on_mono (ho12 (on_ne h (by decide))), fun h => ⟨g, rfl, hv0.putR n1⟩, fun _ => on_mono (by simp [hp]), by simp [hz]⟩
    · intro l a' W' hr hI
      obtain ⟨d0, q1, d2, q3, q4, d5, q6, d7, q8, q9, p10, p11, rfl, hB, b0_0, b0_1, b0_2, b1_0, b1_1, b1_2, lB, hd0, hd2, hd5, hd7, hq1, hq3, hq4, hq6, hq8, hq9, hp10, hp11, hn10_11, hs12, ho12, hs13, ho13, hz⟩ := hI
      have a0 := not_ready (i := 0) hr hz rfl (by simp [Region.binds])
      have a1 := not_ready (i := 1) hr hz rfl (by simp [Region.binds, a0])
      have a2 := not_ready (i := 2) hr hz rfl (by simp [Region.binds, a0, a1])
      have a3 := not_ready (i := 3) hr hz rfl (by simp [Region.binds, a0, a1, a2])
      have a4 := not_ready (i := 4) hr hz rfl (by simp [Region.binds, a0, a1, a2, a3])
      have a5 := not_ready (i := 5) hr hz rfl (by simp [Region.binds, a0, a1, a2, a3, a4])
      have a6 := not_ready (i := 6) hr hz rfl (by simp [Region.binds, a0, a1, a2, a3, a4, a5])
      have a7 := not_ready (i := 7) hr hz rfl (by simp [Region.binds, a0, a1, a2, a3, a4, a5, a6])
      have a8 := not_ready (i := 8) hr hz rfl (by simp [Region.binds, a0, a1, a2, a3, a4, a5, a6, a7])
      have a9 := not_ready (i := 9) hr hz rfl (by simp [Region.binds, a0, a1, a2, a3, a4, a5, a6, a7, a8])
      have a10 := not_ready (i := 10) hr hz rfl (by simp [Region.binds, a0, a1, a2, a3, a4, a5, a6, a7, a8, a9])
      have a11 := not_ready (i := 11) hr hz rfl (by simp [Region.binds, a0, a1, a2, a3, a4, a5, a6, a7, a8, a9, a10])
      have a12 := not_ready (i := 12) hr hz rfl (by simp [Region.binds, a0, a1, a2, a3, a4, a5, a6, a7, a8, a9, a10, a11])
      have a13 := not_ready (i := 13) hr hz rfl (by simp [Region.binds, a0, a1, a2, a3, a4, a5, a6, a7, a8, a9, a10, a11, a12])
      clear hr
      replace hs12 := hs12 a12
      replace hs13 := hs13 a13
      have j5 := hs12.at' (hp10 a10)
      have j6 := hs13.at' (hp11 a11)
      have hne := hn10_11 a10 a11
      clear hs12 hs13 hp10 hp11 hn10_11 hd0 hd2 hd5 hd7 hq1 hq3 hq4 hq6 hq8 hq9 ho12 ho13 hz
      obtain ⟨g5, e5, k5, v5⟩ := j5
      obtain ⟨g6, e6, k6, v6⟩ := j6
      subst e5; subst e6
      have hne2 : g5 ≠ g6 := by rintro rfl; exact hne rfl
      go_wp2_with fail
      go_meet
      exact ⟨g5, g6, rfl, rfl, k5, k6, hne2, v5, v6, ⟨b0_0, b0_1, b0_2⟩, hB⟩
    · exact ⟨_, _, _, _, _, _, _, _, _, _, _, _, rfl, ⟨HW.os, HW.tape, HW.output, HW.size, HW.block⟩, b0_0, b0_1, b0_2, b1_0, b1_1, b1_2, by rw [hB0]; exact Nat.le_refl _, fun h => absurd h (by decide), fun h => absurd h (by decide), fun h => absurd h (by decide), fun h => absurd h (by decide), fun h => absurd h (by decide), fun h => absurd h (by decide), fun h => absurd h (by decide), fun h => absurd h (by decide), fun h => absurd h (by decide), fun h => absurd h (by decide), fun h => absurd h (by decide), fun h => absurd h (by decide), fun h _ => absurd h (by decide), fun h => absurd h (by decide), fun h => absurd h (by decide), fun h => absurd h (by decide), fun h => absurd h (by decide), by simp⟩
  case rest =>
  obtain ⟨g5, g6, e5, e6, k5, k6, h56, v5, v6, ⟨c0_0, c0_1, c0_2⟩, hB⟩ := hcut
  subst e5; subst e6
  clear b0_0 b0_1 b0_2 b1_0 b1_1 b1_2 HW HOB HRA HRB MU RM
  replace HW := Lib.hid hB
  have lA : w.heap.size < wc.heap.size := by have := v5.1; omega
  obtain ⟨lx, ⟨A1, A2, A3, xc, hx⟩, _⟩ := v5
  obtain ⟨ly, ⟨B1, B2, B3, cB1, cB2, cB3, yc, hy⟩, _⟩ := v6
  replace xc : C5 wc g5 (.bool (sn (na x))) (.slice A1 (ln (ab (na x))) (ln (ab (na x)))) (.bool (sn (nb x))) (.slice A2 (ln (ab (nb x))) (ln (ab (nb x)))) (.slice A3 (ln (un x)) (ln (un x))) := xc
  replace yc : C5 wc g6 (.bool (sn (na x))) (.slice B1 (ln (ab (na x))) cB1) (.bool (sn (nb x))) (.slice B2 (ln (ab (nb x))) cB2) (.slice B3 (ln (nd x)) cB3) := yc
  clear k5 k6 l8 hB0 B0 lW hB h56
  obtain ⟨w0, rfl⟩ : ∃ X : World, X = wc := ⟨_, rfl⟩
  have ⟨xc0, xc1, xc2, xc3, xc4⟩ := xc
  go_wp2_with fail
  refine (sqrt_any x A1 A2 A3 _ (by exact hx) (zx.mono (by omega))).mono ?_
  clear xc0 xc1 xc2 xc3 xc4
  rintro e w1 ⟨b, r, hrt, zr, R1, R2, R3, rfl, hr, hb⟩
  replace c0_0 := keepc hb c0_0 lA
  replace c0_1 := keepc hb c0_1 lA
  replace c0_2 := keepc hb c0_2 lA
  replace xc := xc.to hb lx
  replace yc := yc.to hb ly
  replace lA := Nat.lt_of_lt_of_le lA hb.size
  replace lx := Nat.lt_of_lt_of_le lx hb.size
  replace ly := Nat.lt_of_lt_of_le ly hb.size
  replace hx := hx.to hb
  replace hy := hy.to hb
  replace HW := Lib.hid (hstep HW hb)
  clear hb
  replace hrt := Lib.hid hrt
  go_upto_region 3 with fail
  obtain ⟨w2, hX⟩ : ∃ X : World, X = w1.alloc (.cells #[.bool (sn (na r)), .slice R1 (ln (ab (na r))) (ln (ab (na r))), .bool (sn (nb r)), .slice R2 (ln (ab (nb r))) (ln (ab (nb r))), .slice R3 (ln (un r)) (ln (un r))] 30) := ⟨_, rfl⟩
  rw [← hX]
  have hb : Below w1.heap.size w1 w2 := by rw [hX]; exact (Below.refl _ _).alloc (Nat.le_refl _) _
  have rc : C5 w2 w1.heap.size (.bool (sn (na r))) (.slice R1 (ln (ab (na r))) (ln (ab (na r)))) (.bool (sn (nb r))) (.slice R2 (ln (ab (nb r))) (ln (ab (nb r)))) (.slice R3 (ln (un r)) (ln (un r))) := by subst hX; exact ⟨by go_simp, by go_simp, by go_simp, by go_simp, by go_simp⟩
  have lr : w1.heap.size < w2.heap.size := by rw [hX]; simp
  clear hX
  obtain ⟨g7, hg⟩ : ∃ g, g = w1.heap.size := ⟨_, rfl⟩
  rw [← hg] at rc lr
  rw [← hg]
  clear hg
  replace c0_0 := keepc hb c0_0 lA
  replace c0_1 := keepc hb c0_1 lA
  replace c0_2 := keepc hb c0_2 lA
  replace xc := xc.to hb lx
  replace yc := yc.to hb ly
  replace lA := Nat.lt_of_lt_of_le lA hb.size
  replace lx := Nat.lt_of_lt_of_le lx hb.size
  replace ly := Nat.lt_of_lt_of_le ly hb.size
  replace hx := hx.to hb
  replace hy := hy.to hb
  replace hr := hr.to hb
  replace HW := Lib.hid (hstep HW hb)
  clear hb
  have ⟨yc0, yc1, yc2, yc3, yc4⟩ := yc
  go_wp2_with fail
  refine (rsqrt_any x B1 B2 B3 cB1 cB2 cB3 _ (by exact hy) (zx.mono (by omega))).mono ?_
  clear yc0 yc1 yc2 yc3 yc4
  rintro e w3 ⟨b', r', hrt2, S1, S2, S3, cS1, cS2, cS3, rfl, hs, hb⟩
  obtain ⟨rfl, rfl⟩ := IsRt.uniq hrt.out hrt2
  clear hrt2
  replace c0_0 := keepc hb c0_0 lA
  replace c0_1 := keepc hb c0_1 lA
  replace c0_2 := keepc hb c0_2 lA
  replace xc := xc.to hb lx
  replace yc := yc.to hb ly
  replace rc := rc.to hb lr
  replace lA := Nat.lt_of_lt_of_le lA hb.size
  replace lx := Nat.lt_of_lt_of_le lx hb.size
  replace ly := Nat.lt_of_lt_of_le ly hb.size
  replace lr := Nat.lt_of_lt_of_le lr hb.size
  replace hx := hx.to hb
  replace hy := hy.to hb
  replace hr := hr.to hb
  replace HW := Lib.hid (hstep HW hb)
  clear hb
  clear yc hy ly
  go_upto_region 4 with fail
  obtain ⟨w4, hX⟩ : ∃ X : World, X = w3.alloc (.cells #[.bool (sn (na r)), .slice S1 (ln (ab (na r))) cS1, .bool (sn (nb r)), .slice S2 (ln (ab (nb r))) cS2, .slice S3 (ln (nd r)) cS3] 34) := ⟨_, rfl⟩
  rw [← hX]
  have hb : Below w3.heap.size w3 w4 := by rw [hX]; exact (Below.refl _ _).alloc (Nat.le_refl _) _
  have sc : C5 w4 w3.heap.size (.bool (sn (na r))) (.slice S1 (ln (ab (na r))) cS1) (.bool (sn (nb r))) (.slice S2 (ln (ab (nb r))) cS2) (.slice S3 (ln (nd r)) cS3) := by subst hX; exact ⟨by go_simp, by go_simp, by go_simp, by go_simp, by go_simp⟩
  have ls : w3.heap.size < w4.heap.size := by rw [hX]; simp
  clear hX
  obtain ⟨g9, hg⟩ : ∃ g, g = w3.heap.size := ⟨_, rfl⟩
  rw [← hg] at sc ls
  rw [← hg]
  clear hg
  replace c0_0 := keepc hb c0_0 lA
  replace c0_1 := keepc hb c0_1 lA
  replace c0_2 := keepc hb c0_2 lA
  replace xc := xc.to hb lx
  replace rc := rc.to hb lr
  replace lA := Nat.lt_of_lt_of_le lA hb.size
  replace lx := Nat.lt_of_lt_of_le lx hb.size
  replace lr := Nat.lt_of_lt_of_le lr hb.size
  replace hx := hx.to hb
  replace hr := hr.to hb
  replace hs := hs.to hb
  replace HW := Lib.hid (hstep HW hb)
  clear hb
  go_cut [52] (fun v wx => v = .bool false ∧ Below w4.heap.size w4 wx)
  case first =>
    replace HW := Lib.hid (Below.refl w4.heap.size w4)
    cases b
    · skip
      refine wp_region_held_drew (S := fun w' => w'.cell? ⟨g7, 0, none⟩ = some (.bool (sn (na r))) ∧ w'.cell? ⟨g7, 1, none⟩ = some (.slice R1 (ln (ab (na r))) (ln (ab (na r)))) ∧ w'.cell? ⟨g7, 2, none⟩ = some (.bool (sn (nb r))) ∧ w'.cell? ⟨g7, 3, none⟩ = some (.slice R2 (ln (ab (nb r))) (ln (ab (nb r)))) ∧ w'.cell? ⟨g7, 4, none⟩ = some (.slice R3 (ln (un r)) (ln (un r))) ∧ w'.cell? ⟨g9, 0, none⟩ = some (.bool (sn (na r))) ∧ w'.cell? ⟨g9, 1, none⟩ = some (.slice S1 (ln (ab (na r))) cS1) ∧ w'.cell? ⟨g9, 2, none⟩ = some (.bool (sn (nb r))) ∧ w'.cell? ⟨g9, 3, none⟩ = some (.slice S2 (ln (ab (nb r))) cS2) ∧ w'.cell? ⟨g9, 4, none⟩ = some (.slice S3 (ln (nd r)) cS3) ∧ w'.cell? ⟨g5, 0, none⟩ = some (.bool (sn (na x))) ∧ w'.cell? ⟨g5, 1, none⟩ = some (.slice A1 (ln (ab (na x))) (ln (ab (na x)))) ∧ w'.cell? ⟨g5, 2, none⟩ = some (.bool (sn (nb x))) ∧ w'.cell? ⟨g5, 3, none⟩ = some (.slice A2 (ln (ab (nb x))) (ln (ab (nb x)))) ∧ w'.cell? ⟨g5, 4, none⟩ = some (.slice A3 (ln (un x)) (ln (un x)))) (by kernel_rfl) ?_ (fun hHeld => ?_)
      · exact ⟨rc.1, rc.2.1, rc.2.2.1, rc.2.2.2.1, rc.2.2.2.2, sc.1, sc.2.1, sc.2.2.1, sc.2.2.2.1, sc.2.2.2.2, xc.1, xc.2.1, xc.2.2.1, xc.2.2.2.1, xc.2.2.2.2⟩
      refine takeF (i := 0) (d := 33) (v := ?v1) rfl rfl (by kernel_rfl) (by kernel_rfl) (by kernel_rfl) (fun _ _ _ h => h) (Or.inl ⟨by rfl, ?y1⟩) (by assumption) ?r1
      case y1 => (intro w hSw; (try dsimp only at hSw); go_simp; try with_reducible rfl)
      try simp only [Act.put, List.setIfInBounds_toArray, List.set_cons_zero, List.set_cons_succ]
      refine takeF (i := 1) (d := 34) (v := ?v2) rfl rfl (by kernel_rfl) (by kernel_rfl) (by kernel_rfl) (fun _ _ _ h => h) (Or.inl ⟨by rfl, ?y2⟩) (by assumption) ?r2
      case y2 => (intro w hSw; (try dsimp only at hSw); go_simp; try with_reducible rfl)
      try simp only [Act.put, List.setIfInBounds_toArray, List.set_cons_zero, List.set_cons_succ]
      refine takeF (i := 2) (d := 35) (v := ?v3) rfl rfl (by kernel_rfl) (by kernel_rfl) (by kernel_rfl) (fun _ _ _ h => h) (Or.inl ⟨by rfl, ?y3⟩) (by assumption) ?r3
      case y3 => (intro w hSw; (try dsimp only at hSw); go_simp; try with_reducible rfl)
      try simp only [Act.put, List.setIfInBounds_toArray, List.set_cons_zero, List.set_cons_succ]
      refine takeF (i := 3) (d := 36) (v := ?v4) rfl rfl (by kernel_rfl) (by kernel_rfl) (by kernel_rfl) (fun _ _ _ h => h) (Or.inl ⟨by rfl, ?y4⟩) (by assumption) ?r4
      case y4 => (intro w hSw; (try dsimp only at hSw); go_simp; try with_reducible rfl)
      try simp only [Act.put, List.setIfInBounds_toArray, List.set_cons_zero, List.set_cons_succ]
      refine takeF (i := 4) (d := 37) (v := ?v5) rfl rfl (by kernel_rfl) (by kernel_rfl) (by kernel_rfl) (fun _ _ _ h => h) (Or.inl ⟨by rfl, ?y5⟩) (by assumption) ?r5
      case y5 => (intro w hSw; (try dsimp only at hSw); go_simp; try with_reducible rfl)
      try simp only [Act.put, List.setIfInBounds_toArray, List.set_cons_zero, List.set_cons_succ]
      refine takeF (i := 5) (d := 38) (v := ?v6) rfl rfl (by kernel_rfl) (by kernel_rfl) (by kernel_rfl) (fun _ _ _ h => h) (Or.inl ⟨by rfl, ?y6⟩) (by assumption) ?r6
      case y6 => (intro w hSw; (try dsimp only at hSw); go_simp; try with_reducible rfl)
      try simp only [Act.put, List.setIfInBounds_toArray, List.set_cons_zero, List.set_cons_succ]
      refine wpAnyH_ready (rs := [6]) (by kernel_rfl) (by simp) (AllReadyH.cons rfl (fun K hK => ?_) AllReadyH.nil)
      go_simp
      refine (is_true r R1 R2 R3 S1 S2 S3 cS1 cS2 cS3 _ (by exact hr) (by exact hs) (zr.mono (by omega))).mono ?_
      rintro e m7 ⟨rfl, hb⟩
      replace hb := undrew hb
      replace c0_0 := keepc hb c0_0 lA
      replace c0_1 := keepc hb c0_1 lA
      replace c0_2 := keepc hb c0_2 lA
      replace xc := xc.to hb lx
      replace rc := rc.to hb lr
      replace sc := sc.to hb ls
      replace lA := Nat.lt_of_lt_of_le lA hb.size
      replace lx := Nat.lt_of_lt_of_le lx hb.size
      replace lr := Nat.lt_of_lt_of_le lr hb.size
      replace ls := Nat.lt_of_lt_of_le ls hb.size
      replace hx := hx.to hb
      replace hr := hr.to hb
      replace hs := hs.to hb
      replace HW := Lib.hid (hstep HW hb)
      clear hb
      refine hK.out _ _ ?_ (fun hHeld => ?_)
      · exact ⟨rc.1, rc.2.1, rc.2.2.1, rc.2.2.2.1, rc.2.2.2.2, sc.1, sc.2.1, sc.2.2.1, sc.2.2.2.1, sc.2.2.2.2, xc.1, xc.2.1, xc.2.2.1, xc.2.2.2.1, xc.2.2.2.2⟩
      clear hK K
      try simp only [Act.put, List.setIfInBounds_toArray, List.set_cons_zero, List.set_cons_succ]
      refine takeF (i := 7) (d := 40) (v := ?v8) rfl rfl (by kernel_rfl) (by kernel_rfl) (by kernel_rfl) (fun _ _ _ h => h) (Or.inl ⟨by rfl, ?y8⟩) (by assumption) ?r8
      case y8 => (intro w hSw; (try dsimp only at hSw); go_simp; try with_reducible rfl)
      try simp only [Act.put, List.setIfInBounds_toArray, List.set_cons_zero, List.set_cons_succ]
      refine takeF (i := 8) (d := 41) (v := ?v9) rfl rfl (by kernel_rfl) (by kernel_rfl) (by kernel_rfl) (fun _ _ _ h => h) (Or.inl ⟨by rfl, ?y9⟩) (by assumption) ?r9
      case y9 => (intro w hSw; (try dsimp only at hSw); go_simp; try with_reducible rfl)
      try simp only [Act.put, List.setIfInBounds_toArray, List.set_cons_zero, List.set_cons_succ]
      refine takeF (i := 9) (d := 42) (v := ?v10) rfl rfl (by kernel_rfl) (by kernel_rfl) (by kernel_rfl) (fun _ _ _ h => h) (Or.inl ⟨by rfl, ?y10⟩) (by assumption) ?r10
      case y10 => (intro w hSw; (try dsimp only at hSw); go_simp; try with_reducible rfl)
      try simp only [Act.put, List.setIfInBounds_toArray, List.set_cons_zero, List.set_cons_succ]
      refine takeF (i := 10) (d := 43) (v := ?v11) rfl rfl (by kernel_rfl) (by kernel_rfl) (by kernel_rfl) (fun _ _ _ h => h) (Or.inl ⟨by rfl, ?y11⟩) (by assumption) ?r11
      case y11 => (intro w hSw; (try dsimp only at hSw); go_simp; try with_reducible rfl)
      try simp only [Act.put, List.setIfInBounds_toArray, List.set_cons_zero, List.set_cons_succ]
      refine takeF (i := 11) (d := 44) (v := ?v12) rfl rfl (by kernel_rfl) (by kernel_rfl) (by kernel_rfl) (fun _ _ _ h => h) (Or.inl ⟨by rfl, ?y12⟩) (by assumption) ?r12
      case y12 => (intro w hSw; (try dsimp only at hSw); go_simp; try with_reducible rfl)
      try simp only [Act.put, List.setIfInBounds_toArray, List.set_cons_zero, List.set_cons_succ]
      refine takeF (i := 12) (d := 45) (v := undef) rfl rfl (by kernel_rfl) (by kernel_rfl) (by kernel_rfl) (fun _ _ _ h => h) (Or.inr ⟨by rfl, rfl⟩) (by assumption) ?_
      try simp only [Act.put, List.setIfInBounds_toArray, List.set_cons_zero, List.set_cons_succ]
      refine takeF (i := 13) (d := 46) (v := undef) rfl rfl (by kernel_rfl) (by kernel_rfl) (by kernel_rfl) (fun _ _ _ h => h) (Or.inr ⟨by rfl, rfl⟩) (by assumption) ?_
      try simp only [Act.put, List.setIfInBounds_toArray, List.set_cons_zero, List.set_cons_succ]
      refine takeF (i := 14) (d := 47) (v := undef) rfl rfl (by kernel_rfl) (by kernel_rfl) (by kernel_rfl) (fun _ _ _ h => h) (Or.inr ⟨by rfl, rfl⟩) (by assumption) ?_
      try simp only [Act.put, List.setIfInBounds_toArray, List.set_cons_zero, List.set_cons_succ]
      refine takeF (i := 15) (d := 48) (v := undef) rfl rfl (by kernel_rfl) (by kernel_rfl) (by kernel_rfl) (fun _ _ _ h => h) (Or.inr ⟨by rfl, rfl⟩) (by assumption) ?_
      try simp only [Act.put, List.setIfInBounds_toArray, List.set_cons_zero, List.set_cons_succ]
      refine takeF (i := 16) (d := 49) (v := undef) rfl rfl (by kernel_rfl) (by kernel_rfl) (by kernel_rfl) (fun _ _ _ h => h) (Or.inr ⟨by rfl, rfl⟩) (by assumption) ?_
      try simp only [Act.put, List.setIfInBounds_toArray, List.set_cons_zero, List.set_cons_succ]
      refine takeF (i := 17) (d := 50) (v := undef) rfl rfl (by kernel_rfl) (by kernel_rfl) (by kernel_rfl) (fun _ _ _ h => h) (Or.inr ⟨by rfl, rfl⟩) (by assumption) ?_
      try simp only [Act.put, List.setIfInBounds_toArray, List.set_cons_zero, List.set_cons_succ]
      refine takeF (i := 18) (d := 51) (v := ?v19) rfl rfl (by kernel_rfl) (by kernel_rfl) (by kernel_rfl) (fun _ _ _ h => h) (Or.inl ⟨by rfl, ?y19⟩) (by assumption) ?r19
      case y19 => (intro w hSw; (try dsimp only at hSw); go_simp; try with_reducible rfl)
      try simp only [Act.put, List.setIfInBounds_toArray, List.set_cons_zero, List.set_cons_succ]
      refine takeF (i := 19) (d := 52) (v := ?v20) rfl rfl (by kernel_rfl) (by kernel_rfl) (by kernel_rfl) (fun _ _ _ h => h) (Or.inl ⟨by rfl, ?y20⟩) (by assumption) ?r20
      case y20 => (intro w hSw; (try dsimp only at hSw); go_simp; try with_reducible rfl)
      try simp only [Act.put, List.setIfInBounds_toArray, List.set_cons_zero, List.set_cons_succ]
      refine wpAnyH_done (by kernel_rfl) ?_ _
      try go_wp2_with fail
      go_meet
      exact ⟨rfl, HW.out⟩
    · have hm := root_mul hrt.out rfl
      have tm : decide (r.mul r = x) = true := decide_eq_true hm
      have zm : sz 700000000 (r.mul r) := sz.mono (sz_mul zr zr) (by omega)
      clear hm
      go_region_held3 (fun w' => w'.cell? ⟨g7, 0, none⟩ = some (.bool (sn (na r))) ∧ w'.cell? ⟨g7, 1, none⟩ = some (.slice R1 (ln (ab (na r))) (ln (ab (na r)))) ∧ w'.cell? ⟨g7, 2, none⟩ = some (.bool (sn (nb r))) ∧ w'.cell? ⟨g7, 3, none⟩ = some (.slice R2 (ln (ab (nb r))) (ln (ab (nb r)))) ∧ w'.cell? ⟨g7, 4, none⟩ = some (.slice R3 (ln (un r)) (ln (un r))) ∧ w'.cell? ⟨g9, 0, none⟩ = some (.bool (sn (na r))) ∧ w'.cell? ⟨g9, 1, none⟩ = some (.slice S1 (ln (ab (na r))) cS1) ∧ w'.cell? ⟨g9, 2, none⟩ = some (.bool (sn (nb r))) ∧ w'.cell? ⟨g9, 3, none⟩ = some (.slice S2 (ln (ab (nb r))) cS2) ∧ w'.cell? ⟨g9, 4, none⟩ = some (.slice S3 (ln (nd r)) cS3) ∧ w'.cell? ⟨g5, 0, none⟩ = some (.bool (sn (na x))) ∧ w'.cell? ⟨g5, 1, none⟩ = some (.slice A1 (ln (ab (na x))) (ln (ab (na x)))) ∧ w'.cell? ⟨g5, 2, none⟩ = some (.bool (sn (nb x))) ∧ w'.cell? ⟨g5, 3, none⟩ = some (.slice A2 (ln (ab (nb x))) (ln (ab (nb x)))) ∧ w'.cell? ⟨g5, 4, none⟩ = some (.slice A3 (ln (un x)) (ln (un x)))) (first | with_reducible exact ⟨rc.1, rc.2.1, rc.2.2.1, rc.2.2.2.1, rc.2.2.2.2, sc.1, sc.2.1, sc.2.2.1, sc.2.2.2.1, sc.2.2.2.2, xc.1, xc.2.1, xc.2.2.1, xc.2.2.2.1, xc.2.2.2.2⟩ | with_reducible exact ⟨keepd rc.1, keepd rc.2.1, keepd rc.2.2.1, keepd rc.2.2.2.1, keepd rc.2.2.2.2, keepd sc.1, keepd sc.2.1, keepd sc.2.2.1, keepd sc.2.2.2.1, keepd sc.2.2.2.2, keepd xc.1, keepd xc.2.1, keepd xc.2.2.1, keepd xc.2.2.2.1, keepd xc.2.2.2.2⟩ | exact ⟨rc.1, rc.2.1, rc.2.2.1, rc.2.2.2.1, rc.2.2.2.2, sc.1, sc.2.1, sc.2.2.1, sc.2.2.2.1, sc.2.2.2.2, xc.1, xc.2.1, xc.2.2.1, xc.2.2.2.1, xc.2.2.2.2⟩) (first
        | (have _ := mk2; go_at_call 48; refine (same_e (r.mul r) x true tm M1 M2 M3 A1 A2 A3 _ (by exact hm) (by exact hx) (zm.mono (by omega)) (zx.mono (by omega))).mono ?_; rintro e m3 ⟨rfl, hb⟩; replace c0_0 := keepc hb c0_0 lA; replace c0_1 := keepc hb c0_1 lA; replace c0_2 := keepc hb c0_2 lA; replace xc := xc.to hb lx; replace rc := rc.to hb lr; replace sc := sc.to hb ls; replace lA := Nat.lt_of_lt_of_le lA hb.size; replace lx := Nat.lt_of_lt_of_le lx hb.size; replace lr := Nat.lt_of_lt_of_le lr hb.size; replace ls := Nat.lt_of_lt_of_le ls hb.size; replace hx := hx.to hb; replace hr := hr.to hb; replace hs := hs.to hb; replace hm := hm.to hb; replace HW := Lib.hid (hstep HW hb); clear hb; have mk3 : True := trivial; clear mk2)
        | (have _ := mk1; go_at_call 30; refine (mul_num r r R1 R2 R3 R1 R2 R3 _ (by exact hr) (by exact hr) (zr.mono (by omega)) (zr.mono (by omega))).mono ?_; rintro e m2 ⟨M1, M2, M3, rfl, hm, hb⟩; replace c0_0 := keepc hb c0_0 lA; replace c0_1 := keepc hb c0_1 lA; replace c0_2 := keepc hb c0_2 lA; replace xc := xc.to hb lx; replace rc := rc.to hb lr; replace sc := sc.to hb ls; replace lA := Nat.lt_of_lt_of_le lA hb.size; replace lx := Nat.lt_of_lt_of_le lx hb.size; replace lr := Nat.lt_of_lt_of_le lr hb.size; replace ls := Nat.lt_of_lt_of_le ls hb.size; replace hx := hx.to hb; replace hr := hr.to hb; replace hs := hs.to hb; replace HW := Lib.hid (hstep HW hb); clear hb; have mk2 : True := trivial; clear mk1)
        | (go_at_call 45; refine (is_true r R1 R2 R3 S1 S2 S3 cS1 cS2 cS3 _ (by exact hr) (by exact hs) (zr.mono (by omega))).mono ?_; rintro e m1 ⟨rfl, hb⟩; have hb := undrew hb; replace c0_0 := keepc hb c0_0 lA; replace c0_1 := keepc hb c0_1 lA; replace c0_2 := keepc hb c0_2 lA; replace xc := xc.to hb lx; replace rc := rc.to hb lr; replace sc := sc.to hb ls; replace lA := Nat.lt_of_lt_of_le lA hb.size; replace lx := Nat.lt_of_lt_of_le lx hb.size; replace lr := Nat.lt_of_lt_of_le lr hb.size; replace ls := Nat.lt_of_lt_of_le ls hb.size; replace hx := hx.to hb; replace hr := hr.to hb; replace hs := hs.to hb; replace HW := Lib.hid (hstep HW hb); clear hb; have mk1 : True := trivial))
      try go_wp2_with fail
      go_meet
      exact ⟨rfl, HW.out⟩
  case rest =>
  obtain ⟨hc1, hb⟩ := hcut
  subst hc1
  obtain ⟨w5, rfl⟩ : ∃ X : World, X = wc := ⟨_, rfl⟩
  replace c0_0 := keepc hb c0_0 lA
  replace c0_1 := keepc hb c0_1 lA
  replace c0_2 := keepc hb c0_2 lA
  replace xc := xc.to hb lx
  replace rc := rc.to hb lr
  replace sc := sc.to hb ls
  replace lA := Nat.lt_of_lt_of_le lA hb.size
  replace lx := Nat.lt_of_lt_of_le lx hb.size
  replace lr := Nat.lt_of_lt_of_le lr hb.size
  replace ls := Nat.lt_of_lt_of_le ls hb.size
  replace hx := hx.to hb
  replace hr := hr.to hb
  replace hs := hs.to hb
  replace HW := Lib.hid (hstep HW hb)
  clear hb
  clear xc rc sc hx hr hs lx lr ls hrt zr zx
  go_wp2_with fail
  refine (HOA.out _).mono ?_
  rintro e w6 ⟨Z1, Z2, Z3, rfl, hz, hb⟩
  replace c0_0 := keepc hb c0_0 lA
  replace c0_1 := keepc hb c0_1 lA
  replace c0_2 := keepc hb c0_2 lA
  replace lA := Nat.lt_of_lt_of_le lA hb.size
  replace HW := Lib.hid (hstep HW hb)
  clear hb
  clear c0_0 c0_1 c0_2 lA HOA
  go_upto_region 7 with fail
  obtain ⟨w7, hX⟩ : ∃ X : World, X = w6.alloc (.cells #[.bool (sn (na xa)), .slice Z1 (ln (ab (na xa))) (ln (ab (na xa))), .bool (sn (nb xa)), .slice Z2 (ln (ab (nb xa))) (ln (ab (nb xa))), .slice Z3 (ln (un xa)) (ln (un xa))] 30) := ⟨_, rfl⟩
  rw [← hX]
  have hb : Below w6.heap.size w6 w7 := by rw [hX]; exact (Below.refl _ _).alloc (Nat.le_refl _) _
  have zc : C5 w7 w6.heap.size (.bool (sn (na xa))) (.slice Z1 (ln (ab (na xa))) (ln (ab (na xa)))) (.bool (sn (nb xa))) (.slice Z2 (ln (ab (nb xa))) (ln (ab (nb xa)))) (.slice Z3 (ln (un xa)) (ln (un xa))) := by subst hX; exact ⟨by go_simp, by go_simp, by go_simp, by go_simp, by go_simp⟩
  have lz : w6.heap.size < w7.heap.size := by rw [hX]; simp
  clear hX
  obtain ⟨g11, hg⟩ : ∃ g, g = w6.heap.size := ⟨_, rfl⟩
  rw [← hg] at zc lz
  rw [← hg]
  clear hg
  replace hz := hz.to hb
  replace HW := Lib.hid (hstep HW hb)
  clear hb
  have ⟨zc0, zc1, zc2, zc3, zc4⟩ := zc
  go_wp2_with fail
  refine (mul_num xa xa Z1 Z2 Z3 Z1 Z2 Z3 _ (by exact hz) (by exact hz) (za.mono (by omega)) (za.mono (by omega))).mono ?_
  clear zc0 zc1 zc2 zc3 zc4
  rintro e w8 ⟨M1, M2, M3, rfl, hm, hb⟩
  replace zc := zc.to hb lz
  replace lz := Nat.lt_of_lt_of_le lz hb.size
  replace hz := hz.to hb
  replace HW := Lib.hid (hstep HW hb)
  clear hb
  go_wp2_with fail
  refine (sqrt_any (xa.mul xa) M1 M2 M3 _ (by exact hm) (zaa.mono (by omega))).mono ?_
  rintro e w9 ⟨b, t, hrt, zt, T1, T2, T3, rfl, ht, hb⟩
  replace zc := zc.to hb lz
  replace lz := Nat.lt_of_lt_of_le lz hb.size
  replace hz := hz.to hb
  replace hm := hm.to hb
  replace HW := Lib.hid (hstep HW hb)
  clear hb
  clear hm
  obtain ⟨rfl, hpm, hre⟩ := root_sq hrt
  have cg := re_ge hre
  replace hpm := Lib.hid hpm
  have zre : sz 300000000 t.reOf := sz_re zt
  clear hrt hre
  go_upto_region 8 with fail
  obtain ⟨w10, hX⟩ : ∃ X : World, X = w9.alloc (.cells #[.bool (sn (na t)), .slice T1 (ln (ab (na t))) (ln (ab (na t))), .bool (sn (nb t)), .slice T2 (ln (ab (nb t))) (ln (ab (nb t))), .slice T3 (ln (un t)) (ln (un t))] 30) := ⟨_, rfl⟩
  rw [← hX]
  have hb : Below w9.heap.size w9 w10 := by rw [hX]; exact (Below.refl _ _).alloc (Nat.le_refl _) _
  have tc : C5 w10 w9.heap.size (.bool (sn (na t))) (.slice T1 (ln (ab (na t))) (ln (ab (na t)))) (.bool (sn (nb t))) (.slice T2 (ln (ab (nb t))) (ln (ab (nb t)))) (.slice T3 (ln (un t)) (ln (un t))) := by subst hX; exact ⟨by go_simp, by go_simp, by go_simp, by go_simp, by go_simp⟩
  have lt : w9.heap.size < w10.heap.size := by rw [hX]; simp
  clear hX
  obtain ⟨g12, hg⟩ : ∃ g, g = w9.heap.size := ⟨_, rfl⟩
  rw [← hg] at tc lt
  rw [← hg]
  clear hg
  replace zc := zc.to hb lz
  replace lz := Nat.lt_of_lt_of_le lz hb.size
  replace hz := hz.to hb
  replace ht := ht.to hb
  replace HW := Lib.hid (hstep HW hb)
  clear hb
  by_cases htz : t = xa
  · have t1 : decide (t = xa) = true := decide_eq_true htz
    clear htz
    refine wp_region_held_drew (S := fun w' => w'.cell? ⟨g11, 0, none⟩ = some (.bool (sn (na xa))) ∧ w'.cell? ⟨g11, 1, none⟩ = some (.slice Z1 (ln (ab (na xa))) (ln (ab (na xa)))) ∧ w'.cell? ⟨g11, 2, none⟩ = some (.bool (sn (nb xa))) ∧ w'.cell? ⟨g11, 3, none⟩ = some (.slice Z2 (ln (ab (nb xa))) (ln (ab (nb xa)))) ∧ w'.cell? ⟨g11, 4, none⟩ = some (.slice Z3 (ln (un xa)) (ln (un xa))) ∧ w'.cell? ⟨g12, 0, none⟩ = some (.bool (sn (na t))) ∧ w'.cell? ⟨g12, 1, none⟩ = some (.slice T1 (ln (ab (na t))) (ln (ab (na t)))) ∧ w'.cell? ⟨g12, 2, none⟩ = some (.bool (sn (nb t))) ∧ w'.cell? ⟨g12, 3, none⟩ = some (.slice T2 (ln (ab (nb t))) (ln (ab (nb t)))) ∧ w'.cell? ⟨g12, 4, none⟩ = some (.slice T3 (ln (un t)) (ln (un t)))) (by kernel_rfl) ?_ (fun hHeld => ?_)
    · exact ⟨zc.1, zc.2.1, zc.2.2.1, zc.2.2.2.1, zc.2.2.2.2, tc.1, tc.2.1, tc.2.2.1, tc.2.2.2.1, tc.2.2.2.2⟩
    refine takeF (i := 0) (d := 62) (v := ?v21) rfl rfl (by kernel_rfl) (by kernel_rfl) (by kernel_rfl) (fun _ _ _ h => h) (Or.inl ⟨by rfl, ?y21⟩) (by assumption) ?r21
    case y21 => (intro w hSw; (try dsimp only at hSw); go_simp; try with_reducible rfl)
    try simp only [Act.put, List.setIfInBounds_toArray, List.set_cons_zero, List.set_cons_succ]
    refine takeF (i := 1) (d := 63) (v := ?v22) rfl rfl (by kernel_rfl) (by kernel_rfl) (by kernel_rfl) (fun _ _ _ h => h) (Or.inl ⟨by rfl, ?y22⟩) (by assumption) ?r22
    case y22 => (intro w hSw; (try dsimp only at hSw); go_simp; try with_reducible rfl)
    try simp only [Act.put, List.setIfInBounds_toArray, List.set_cons_zero, List.set_cons_succ]
    refine takeF (i := 2) (d := 64) (v := ?v23) rfl rfl (by kernel_rfl) (by kernel_rfl) (by kernel_rfl) (fun _ _ _ h => h) (Or.inl ⟨by rfl, ?y23⟩) (by assumption) ?r23
    case y23 => (intro w hSw; (try dsimp only at hSw); go_simp; try with_reducible rfl)
    try simp only [Act.put, List.setIfInBounds_toArray, List.set_cons_zero, List.set_cons_succ]
    refine takeF (i := 3) (d := 65) (v := ?v24) rfl rfl (by kernel_rfl) (by kernel_rfl) (by kernel_rfl) (fun _ _ _ h => h) (Or.inl ⟨by rfl, ?y24⟩) (by assumption) ?r24
    case y24 => (intro w hSw; (try dsimp only at hSw); go_simp; try with_reducible rfl)
    try simp only [Act.put, List.setIfInBounds_toArray, List.set_cons_zero, List.set_cons_succ]
    refine wpAnyH_ready (rs := [4]) (by kernel_rfl) (by simp) (AllReadyH.cons rfl (fun K hK => ?_) AllReadyH.nil)
    go_simp
    refine (same_e t xa true t1 T1 T2 T3 Z1 Z2 Z3 _ (by exact ht) (by exact hz) (zt.mono (by omega)) (za.mono (by omega))).mono ?_
    rintro e m25 ⟨rfl, hb⟩
    replace hb := undrew hb
    replace zc := zc.to hb lz
    replace tc := tc.to hb lt
    replace lz := Nat.lt_of_lt_of_le lz hb.size
    replace lt := Nat.lt_of_lt_of_le lt hb.size
    replace hz := hz.to hb
    replace ht := ht.to hb
    replace HW := Lib.hid (hstep HW hb)
    clear hb
    refine hK.out _ _ ?_ (fun hHeld => ?_)
    · exact ⟨zc.1, zc.2.1, zc.2.2.1, zc.2.2.2.1, zc.2.2.2.2, tc.1, tc.2.1, tc.2.2.1, tc.2.2.2.1, tc.2.2.2.2⟩
    clear hK K
    try simp only [Act.put, List.setIfInBounds_toArray, List.set_cons_zero, List.set_cons_succ]
    refine takeF (i := 5) (d := 67) (v := ?v26) rfl rfl (by kernel_rfl) (by kernel_rfl) (by kernel_rfl) (fun _ _ _ h => h) (Or.inl ⟨by rfl, ?y26⟩) (by assumption) ?r26
    case y26 => (intro w hSw; (try dsimp only at hSw); go_simp; try with_reducible rfl)
    try simp only [Act.put, List.setIfInBounds_toArray, List.set_cons_zero, List.set_cons_succ]
    refine takeF (i := 6) (d := 68) (v := undef) rfl rfl (by kernel_rfl) (by kernel_rfl) (by kernel_rfl) (fun _ _ _ h => h) (Or.inr ⟨by rfl, rfl⟩) (by assumption) ?_
    try simp only [Act.put, List.setIfInBounds_toArray, List.set_cons_zero, List.set_cons_succ]
    refine takeF (i := 7) (d := 69) (v := undef) rfl rfl (by kernel_rfl) (by kernel_rfl) (by kernel_rfl) (fun _ _ _ h => h) (Or.inr ⟨by rfl, rfl⟩) (by assumption) ?_
    try simp only [Act.put, List.setIfInBounds_toArray, List.set_cons_zero, List.set_cons_succ]
    refine takeF (i := 8) (d := 70) (v := undef) rfl rfl (by kernel_rfl) (by kernel_rfl) (by kernel_rfl) (fun _ _ _ h => h) (Or.inr ⟨by rfl, rfl⟩) (by assumption) ?_
    try simp only [Act.put, List.setIfInBounds_toArray, List.set_cons_zero, List.set_cons_succ]
    refine takeF (i := 9) (d := 71) (v := undef) rfl rfl (by kernel_rfl) (by kernel_rfl) (by kernel_rfl) (fun _ _ _ h => h) (Or.inr ⟨by rfl, rfl⟩) (by assumption) ?_
    try simp only [Act.put, List.setIfInBounds_toArray, List.set_cons_zero, List.set_cons_succ]
    refine takeF (i := 10) (d := 72) (v := ?v31) rfl rfl (by kernel_rfl) (by kernel_rfl) (by kernel_rfl) (fun _ _ _ h => h) (Or.inl ⟨by rfl, ?y31⟩) (by assumption) ?r31
    case y31 => (intro w hSw; (try dsimp only at hSw); go_simp; try with_reducible rfl)
    try simp only [Act.put, List.setIfInBounds_toArray, List.set_cons_zero, List.set_cons_succ]
    refine takeF (i := 11) (d := 73) (v := ?v32) rfl rfl (by kernel_rfl) (by kernel_rfl) (by kernel_rfl) (fun _ _ _ h => h) (Or.inl ⟨by rfl, ?y32⟩) (by assumption) ?r32
    case y32 => (intro w hSw; (try dsimp only at hSw); go_simp; try with_reducible rfl)
    try simp only [Act.put, List.setIfInBounds_toArray, List.set_cons_zero, List.set_cons_succ]
    refine takeF (i := 12) (d := 74) (v := ?v33) rfl rfl (by kernel_rfl) (by kernel_rfl) (by kernel_rfl) (fun _ _ _ h => h) (Or.inl ⟨by rfl, ?y33⟩) (by assumption) ?r33
    case y33 => (intro w hSw; (try dsimp only at hSw); go_simp; try with_reducible rfl)
    try simp only [Act.put, List.setIfInBounds_toArray, List.set_cons_zero, List.set_cons_succ]
    refine takeF (i := 13) (d := 75) (v := ?v34) rfl rfl (by kernel_rfl) (by kernel_rfl) (by kernel_rfl) (fun _ _ _ h => h) (Or.inl ⟨by rfl, ?y34⟩) (by assumption) ?r34
    case y34 => (intro w hSw; (try dsimp only at hSw); go_simp; try with_reducible rfl)
    try simp only [Act.put, List.setIfInBounds_toArray, List.set_cons_zero, List.set_cons_succ]
    refine wpAnyH_ready (rs := [14]) (by kernel_rfl) (by simp) (AllReadyH.cons rfl (fun K hK => ?_) AllReadyH.nil)
    go_simp
    refine (re_num t T1 T2 T3 _ (by exact ht) (zt.mono (by omega))).mono ?_
    rintro e m35 ⟨E1, E2, E3, rfl, he, hb⟩
    replace zc := zc.to hb lz
    replace tc := tc.to hb lt
    replace lz := Nat.lt_of_lt_of_le lz hb.size
    replace lt := Nat.lt_of_lt_of_le lt hb.size
    replace hz := hz.to hb
    replace ht := ht.to hb
    replace HW := Lib.hid (hstep HW hb)
    clear hb
    refine hK.out _ _ ?_ (fun hHeld => ?_)
    · exact ⟨zc.1, zc.2.1, zc.2.2.1, zc.2.2.2.1, zc.2.2.2.2, tc.1, tc.2.1, tc.2.2.1, tc.2.2.2.1, tc.2.2.2.2⟩
    clear hK K
    try simp only [Act.put, List.setIfInBounds_toArray, List.set_cons_zero, List.set_cons_succ]
    refine wpAnyH_ready (rs := [15]) (by kernel_rfl) (by simp) (AllReadyH.cons rfl (fun K hK => ?_) AllReadyH.nil)
    go_simp
    refine (int_any 0 _ (by omega) (by omega)).mono ?_
    rintro e m36 ⟨I1, I2, I3, rfl, hi, hb⟩
    replace zc := zc.to hb lz
    replace tc := tc.to hb lt
    replace lz := Nat.lt_of_lt_of_le lz hb.size
    replace lt := Nat.lt_of_lt_of_le lt hb.size
    replace hz := hz.to hb
    replace ht := ht.to hb
    replace he := he.to hb
    replace HW := Lib.hid (hstep HW hb)
    clear hb
    refine hK.out _ _ ?_ (fun hHeld => ?_)
    · exact ⟨zc.1, zc.2.1, zc.2.2.1, zc.2.2.2.1, zc.2.2.2.2, tc.1, tc.2.1, tc.2.2.1, tc.2.2.2.1, tc.2.2.2.2⟩
    clear hK K
    try simp only [Act.put, List.setIfInBounds_toArray, List.set_cons_zero, List.set_cons_succ]
    refine wpAnyH_ready (rs := [16]) (by kernel_rfl) (by simp) (AllReadyH.cons rfl (fun K hK => ?_) AllReadyH.nil)
    go_simp
    refine (cmp_num t.reOf (Cx.ofInt 0) E1 E2 E3 I1 I2 I3 _ (by exact he) (by exact hi) (zre.mono (by omega)) (sz_int0.mono (by omega))).mono ?_
    rintro e m37 ⟨rfl, hb⟩
    replace zc := zc.to hb lz
    replace tc := tc.to hb lt
    replace lz := Nat.lt_of_lt_of_le lz hb.size
    replace lt := Nat.lt_of_lt_of_le lt hb.size
    replace hz := hz.to hb
    replace ht := ht.to hb
    replace he := he.to hb
    replace hi := hi.to hb
    replace HW := Lib.hid (hstep HW hb)
    clear hb
    refine hK.out _ _ ?_ (fun hHeld => ?_)
    · exact ⟨zc.1, zc.2.1, zc.2.2.1, zc.2.2.2.1, zc.2.2.2.2, tc.1, tc.2.1, tc.2.2.1, tc.2.2.2.1, tc.2.2.2.2⟩
    clear hK K
    try simp only [Act.put, List.setIfInBounds_toArray, List.set_cons_zero, List.set_cons_succ]
    refine takeF (i := 17) (d := 79) (v := ?v38) rfl rfl (by kernel_rfl) (by kernel_rfl) (by kernel_rfl) (fun _ _ _ h => h) (Or.inl ⟨by rfl, ?y38⟩) (by assumption) ?r38
    case y38 => (intro w hSw; (try dsimp only at hSw); go_simp; try with_reducible rfl)
    try simp only [Act.put, List.setIfInBounds_toArray, List.set_cons_zero, List.set_cons_succ]
    refine takeF (i := 18) (d := 80) (v := ?v39) rfl rfl (by kernel_rfl) (by kernel_rfl) (by kernel_rfl) (fun _ _ _ h => h) (Or.inl ⟨by rfl, ?y39⟩) (by assumption) ?r39
    case y39 => (intro w hSw; (try dsimp only at hSw); go_simp; try with_reducible rfl)
    try simp only [Act.put, List.setIfInBounds_toArray, List.set_cons_zero, List.set_cons_succ]
    refine takeF (i := 19) (d := 81) (v := ?v40) rfl rfl (by kernel_rfl) (by kernel_rfl) (by kernel_rfl) (fun _ _ _ h => h) (Or.inl ⟨by rfl, ?y40⟩) (by assumption) ?r40
    case y40 => (intro w hSw; (try dsimp only at hSw); go_simp; try with_reducible rfl)
    try simp only [Act.put, List.setIfInBounds_toArray, List.set_cons_zero, List.set_cons_succ]
    refine wpAnyH_ready (rs := [20]) (by kernel_rfl) (by simp) (AllReadyH.cons rfl (fun K hK => ?_) AllReadyH.nil)
    go_simp
    refine (awake_any _).mono ?_
    rintro e m41 ⟨rfl, hb⟩
    replace zc := zc.to hb lz
    replace tc := tc.to hb lt
    replace lz := Nat.lt_of_lt_of_le lz hb.size
    replace lt := Nat.lt_of_lt_of_le lt hb.size
    replace hz := hz.to hb
    replace ht := ht.to hb
    replace he := he.to hb
    replace hi := hi.to hb
    replace HW := Lib.hid (hstep HW hb)
    clear hb
    refine hK.out _ _ ?_ (fun hHeld => ?_)
    · exact ⟨zc.1, zc.2.1, zc.2.2.1, zc.2.2.2.1, zc.2.2.2.2, tc.1, tc.2.1, tc.2.2.1, tc.2.2.2.1, tc.2.2.2.2⟩
    clear hK K
    try simp only [Act.put, List.setIfInBounds_toArray, List.set_cons_zero, List.set_cons_succ]
    refine takeF (i := 21) (d := 83) (v := ?v42) rfl rfl (by kernel_rfl) (by kernel_rfl) (by kernel_rfl) (fun _ _ _ h => h) (Or.inl ⟨by rfl, ?y42⟩) (by assumption) ?r42
    case y42 => (intro w hSw; (try dsimp only at hSw); go_simp; try with_reducible rfl)
    try simp only [Act.put, List.setIfInBounds_toArray, List.set_cons_zero, List.set_cons_succ]
    refine takeF (i := 22) (d := 4) (v := ?v43) rfl rfl (by kernel_rfl) (by kernel_rfl) (by kernel_rfl) (fun _ _ _ h => h) (Or.inl ⟨by rfl, ?y43⟩) (by assumption) ?r43
    case y43 => (intro w hSw; (try dsimp only at hSw); go_simp; try with_reducible rfl)
    try simp only [Act.put, List.setIfInBounds_toArray, List.set_cons_zero, List.set_cons_succ]
    refine wpAnyH_done (by kernel_rfl) ?_ _
    try go_wp2_with fail
    exact bodyPost_ret (v := .bool true) (by simp [results, Tryz.results9, go_sem]) rfl ⟨rfl, HW.out⟩
  · have t1 : decide (t = xa) = false := decide_eq_false htz
    have t2 : decide (t = xa.neg) = true := decide_eq_true (hpm.out.resolve_left htz)
    clear htz
    go_region_held3 (fun w' => w'.cell? ⟨g11, 0, none⟩ = some (.bool (sn (na xa))) ∧ w'.cell? ⟨g11, 1, none⟩ = some (.slice Z1 (ln (ab (na xa))) (ln (ab (na xa)))) ∧ w'.cell? ⟨g11, 2, none⟩ = some (.bool (sn (nb xa))) ∧ w'.cell? ⟨g11, 3, none⟩ = some (.slice Z2 (ln (ab (nb xa))) (ln (ab (nb xa)))) ∧ w'.cell? ⟨g11, 4, none⟩ = some (.slice Z3 (ln (un xa)) (ln (un xa))) ∧ w'.cell? ⟨g12, 0, none⟩ = some (.bool (sn (na t))) ∧ w'.cell? ⟨g12, 1, none⟩ = some (.slice T1 (ln (ab (na t))) (ln (ab (na t)))) ∧ w'.cell? ⟨g12, 2, none⟩ = some (.bool (sn (nb t))) ∧ w'.cell? ⟨g12, 3, none⟩ = some (.slice T2 (ln (ab (nb t))) (ln (ab (nb t)))) ∧ w'.cell? ⟨g12, 4, none⟩ = some (.slice T3 (ln (un t)) (ln (un t)))) (first | with_reducible exact ⟨zc.1, zc.2.1, zc.2.2.1, zc.2.2.2.1, zc.2.2.2.2, tc.1, tc.2.1, tc.2.2.1, tc.2.2.2.1, tc.2.2.2.2⟩ | with_reducible exact ⟨keepd zc.1, keepd zc.2.1, keepd zc.2.2.1, keepd zc.2.2.2.1, keepd zc.2.2.2.2, keepd tc.1, keepd tc.2.1, keepd tc.2.2.1, keepd tc.2.2.2.1, keepd tc.2.2.2.2⟩ | exact ⟨zc.1, zc.2.1, zc.2.2.1, zc.2.2.2.1, zc.2.2.2.2, tc.1, tc.2.1, tc.2.2.1, tc.2.2.2.1, tc.2.2.2.2⟩) (first
      | (have _ := mk6; go_at_call 23; refine (awake_any _).mono ?_; rintro e n6 ⟨rfl, hb⟩; replace zc := zc.to hb lz; replace tc := tc.to hb lt; replace lz := Nat.lt_of_lt_of_le lz hb.size; replace lt := Nat.lt_of_lt_of_le lt hb.size; replace hz := hz.to hb; replace ht := ht.to hb; replace hn := hn.to hb; replace he := he.to hb; replace hi := hi.to hb; replace HW := Lib.hid (hstep HW hb); clear hb; have mk7 : True := trivial; clear mk6)
      | (have _ := mk5; go_at_call 50; refine (cmp_num t.reOf (Cx.ofInt 0) E1 E2 E3 I1 I2 I3 _ (by exact he) (by exact hi) (zre.mono (by omega)) (sz_int0.mono (by omega))).mono ?_; rintro e n5 ⟨rfl, hb⟩; replace zc := zc.to hb lz; replace tc := tc.to hb lt; replace lz := Nat.lt_of_lt_of_le lz hb.size; replace lt := Nat.lt_of_lt_of_le lt hb.size; replace hz := hz.to hb; replace ht := ht.to hb; replace hn := hn.to hb; replace he := he.to hb; replace hi := hi.to hb; replace HW := Lib.hid (hstep HW hb); clear hb; have mk6 : True := trivial; clear mk5)
      | (have _ := mk4; go_at_call 59; refine (int_any 0 _ (by omega) (by omega)).mono ?_; rintro e n4 ⟨I1, I2, I3, rfl, hi, hb⟩; replace zc := zc.to hb lz; replace tc := tc.to hb lt; replace lz := Nat.lt_of_lt_of_le lz hb.size; replace lt := Nat.lt_of_lt_of_le lt hb.size; replace hz := hz.to hb; replace ht := ht.to hb; replace hn := hn.to hb; replace he := he.to hb; replace HW := Lib.hid (hstep HW hb); clear hb; have mk5 : True := trivial; clear mk4)
      | (have _ := mk3; go_at_call 40; refine (re_num t T1 T2 T3 _ (by exact ht) (zt.mono (by omega))).mono ?_; rintro e n3 ⟨E1, E2, E3, rfl, he, hb⟩; replace zc := zc.to hb lz; replace tc := tc.to hb lt; replace lz := Nat.lt_of_lt_of_le lz hb.size; replace lt := Nat.lt_of_lt_of_le lt hb.size; replace hz := hz.to hb; replace ht := ht.to hb; replace hn := hn.to hb; replace HW := Lib.hid (hstep HW hb); clear hb; have mk4 : True := trivial; clear mk3)
      | (have _ := mk2; go_at_call 48; refine (same_e t xa.neg true t2 T1 T2 T3 N1 N2 N3 _ (by exact ht) (by exact hn) (zt.mono (by omega)) ((sz_neg za).mono (by omega))).mono ?_; rintro e n2 ⟨rfl, hb⟩; replace zc := zc.to hb lz; replace tc := tc.to hb lt; replace lz := Nat.lt_of_lt_of_le lz hb.size; replace lt := Nat.lt_of_lt_of_le lt hb.size; replace hz := hz.to hb; replace ht := ht.to hb; replace hn := hn.to hb; replace HW := Lib.hid (hstep HW hb); clear hb; have mk3 : True := trivial; clear mk2)
      | (have _ := mk1; go_at_call 34; refine (neg_any xa Z1 Z2 Z3 _ (by exact hz)).mono ?_; rintro e n1 ⟨N1, N2, N3, rfl, hn, hb⟩; replace zc := zc.to hb lz; replace tc := tc.to hb lt; replace lz := Nat.lt_of_lt_of_le lz hb.size; replace lt := Nat.lt_of_lt_of_le lt hb.size; replace hz := hz.to hb; replace ht := ht.to hb; replace HW := Lib.hid (hstep HW hb); clear hb; have mk2 : True := trivial; clear mk1)
      | (go_at_call 48; refine (same_e t xa false t1 T1 T2 T3 Z1 Z2 Z3 _ (by exact ht) (by exact hz) (zt.mono (by omega)) (za.mono (by omega))).mono ?_; rintro e n0 ⟨rfl, hb⟩; have hb := undrew hb; replace zc := zc.to hb lz; replace tc := tc.to hb lt; replace lz := Nat.lt_of_lt_of_le lz hb.size; replace lt := Nat.lt_of_lt_of_le lt hb.size; replace hz := hz.to hb; replace ht := ht.to hb; replace HW := Lib.hid (hstep HW hb); clear hb; have mk1 : True := trivial))
    try go_wp2_with fail
    exact bodyPost_ret (v := .bool true) (by simp [results, Tryz.results9, go_sem]) rfl ⟨rfl, HW.out⟩

end Go.Proofs.YtgpmlhpgdalheaaGreat
