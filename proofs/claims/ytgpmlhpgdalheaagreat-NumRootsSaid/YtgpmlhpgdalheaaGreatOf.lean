/- The law's 'Of'. -/
import Derived.Test.YtgpmlhpgdalheaaGreatNew
namespace Go.Proofs.YtgpmlhpgdalheaaGreat
open Go.RowKit Pl
set_option linter.unusedVariables false
set_option linter.unusedSimpArgs false

/-- A Num is stored into the five cells of the block p. -/
def set5 (w : World) (p : Nat) (q : Cx) (A1 A2 A3 : Option Addr) : World :=
  ((((w.setCell ⟨p, 0, none⟩ (.bool (sn (na q)))).setCell ⟨p, 1, none⟩ (.slice A1 (ln (ab (na q))) (ln (ab (na q))))).setCell ⟨p, 2, none⟩ (.bool (sn (nb q)))).setCell ⟨p, 3, none⟩ (.slice A2 (ln (ab (nb q))) (ln (ab (nb q))))).setCell ⟨p, 4, none⟩ (.slice A3 (ln (un q)) (ln (un q)))
theorem set5_size (w : World) (p : Nat) (q : Cx) (A1 A2 A3 : Option Addr) : (set5 w p q A1 A2 A3).heap.size = w.heap.size := by simp [set5, World.setCell]
theorem set5_cell {w : World} {p b i : Nat} {q : Cx} {A1 A2 A3 : Option Addr} {v : Value} (h : w.cell? ⟨b, i, none⟩ = some v) (h1 : b ≠ p) : (set5 w p q A1 A2 A3).cell? ⟨b, i, none⟩ = some v := keepo (keepo (keepo (keepo (keepo h (.inl h1)) (.inl h1)) (.inl h1)) (.inl h1)) (.inl h1)
theorem set5_frozen {w : World} {p b i : Nat} {q : Cx} {A1 A2 A3 : Option Addr} {v : Bool} (h : w.frozen? ⟨b, i, none⟩ = v) : (set5 w p q A1 A2 A3).frozen? ⟨b, i, none⟩ = v := keepof (keepof (keepof (keepof (keepof h))))
theorem set5_below {w W : World} {B p : Nat} {q : Cx} {A1 A2 A3 : Option Addr} (h : Below B w W) (hp : B ≤ p) : Below B w (set5 W p q A1 A2 A3) :=
  ((((h.setCell (by exact hp) _).setCell (by exact hp) _).setCell (by exact hp) _).setCell (by exact hp) _).setCell (by exact hp) _
theorem set5_nat {w : World} {p n : Nat} {q : Cx} {A1 A2 A3 A : Option Addr} {c : Bool} (h : Nat32 w A n) (u : w.cell? ⟨p, 0, none⟩ = some (.bool c)) : Nat32 (set5 w p q A1 A2 A3) A n := by
  have nb : ∀ (b : Bool) k m, Value.bool b ≠ .int k m := by intro b k m e; cases e
  have a1 := cell_self (u := .bool (sn (na q))) u
  have a2 := keepo (R := p) (j := 1) (u := .slice A1 (ln (ab (na q))) (ln (ab (na q)))) a1 (.inr (by omega))
  have a3 := keepo (R := p) (j := 2) (u := .bool (sn (Pl.nb q))) a2 (.inr (by omega))
  have a4 := keepo (R := p) (j := 3) (u := .slice A2 (ln (ab (Pl.nb q))) (ln (ab (Pl.nb q)))) a3 (.inr (by omega))
  exact ((((h.setBox u (nb _)).setBox a1 (nb _)).setBox a2 (nb _)).setBox a3 (nb _)).setBox a4 (nb _)
theorem set5_num3 {w : World} {p : Nat} {q r : Cx} {A1 A2 A3 B1 B2 B3 : Option Addr} {c : Bool} (h : Num3 w B1 B2 B3 r) (u : w.cell? ⟨p, 0, none⟩ = some (.bool c)) : Num3 (set5 w p q A1 A2 A3) B1 B2 B3 r := ⟨set5_nat h.1 u, set5_nat h.2.1 u, set5_nat h.2.2 u⟩
theorem set5_self {w : World} {p : Nat} {q : Cx} {A1 A2 A3 : Option Addr} {v0 v1 v2 v3 v4 : Value} (u0 : w.cell? ⟨p, 0, none⟩ = some v0) (u1 : w.cell? ⟨p, 1, none⟩ = some v1) (u2 : w.cell? ⟨p, 2, none⟩ = some v2) (u3 : w.cell? ⟨p, 3, none⟩ = some v3) (u4 : w.cell? ⟨p, 4, none⟩ = some v4) : Cells5 (set5 w p q A1 A2 A3) p q A1 A2 A3 := by
  unfold set5
  have o0 := cell_self (u := .bool (sn (na q))) u0
  refine ⟨?_, ?_, ?_, ?_, ?_⟩
  · exact keepo (keepo (keepo (keepo o0 (by omega)) (by omega)) (by omega)) (by omega)
  · exact keepo (keepo (keepo (cell_self (keepo u1 (by omega))) (by omega)) (by omega)) (by omega)
  · exact keepo (keepo (cell_self (keepo (keepo u2 (by omega)) (by omega))) (by omega)) (by omega)
  · exact keepo (cell_self (keepo (keepo (keepo u3 (by omega)) (by omega)) (by omega))) (by omega)
  · exact cell_self (keepo (keepo (keepo (keepo u4 (by omega)) (by omega)) (by omega)) (by omega))

set_option maxHeartbeats 4000000 in
theorem of_more (a b d : Int) (w : World) (ha : -9223372036854775808 ≤ a ∧ a ≤ 9223372036854775807) (hb : -9223372036854775808 ≤ b ∧ b ≤ 9223372036854775807) (hd : -9223372036854775808 ≤ d ∧ d ≤ 9223372036854775807) (h : d ≠ 0) :
    Calls Tryz.prog 58 #[.agg #[.int .i64 a, .int .i64 b, .int .i64 d]] w (RetNum w (frz a b d)) := by
  have HA := Lib.hid ha
  have HB := Lib.hid hb
  have HD := Lib.hid hd
  have H0 := Lib.hid h
  have t : (d == 0) = false := by rw [beq_eq_false_iff_ne]; omega
  clear ha hb hd h
  go_enter Tryz.func58, Tryz.ntmps58
  go_wp2_with fail
  obtain ⟨W, hW⟩ : ∃ W : World, W = ((w.alloc (.cells #[.int .i64 a, .int .i64 b, .int .i64 d] 23)).alloc (.cells #[.bool false, .slice none 0 0, .bool false, .slice none 0 0, .slice none 0 0] 30)) := ⟨_, rfl⟩
  have s0_0 : W.cell? ⟨w.heap.size, 0, none⟩ = some (.int .i64 a) := by subst hW; go_simp
  have s0_1 : W.cell? ⟨w.heap.size, 1, none⟩ = some (.int .i64 b) := by subst hW; go_simp
  have s0_2 : W.cell? ⟨w.heap.size, 2, none⟩ = some (.int .i64 d) := by subst hW; go_simp
  have r0 : W.cell? ⟨w.heap.size + 1, 0, none⟩ = some (.bool false) := by subst hW; go_simp
  have f0 : W.frozen? ⟨w.heap.size + 1, 0, none⟩ = false := by subst hW; go_simp
  have r1 : W.cell? ⟨w.heap.size + 1, 1, none⟩ = some (.slice none 0 0) := by subst hW; go_simp
  have f1 : W.frozen? ⟨w.heap.size + 1, 1, none⟩ = false := by subst hW; go_simp
  have r2 : W.cell? ⟨w.heap.size + 1, 2, none⟩ = some (.bool false) := by subst hW; go_simp
  have f2 : W.frozen? ⟨w.heap.size + 1, 2, none⟩ = false := by subst hW; go_simp
  have r3 : W.cell? ⟨w.heap.size + 1, 3, none⟩ = some (.slice none 0 0) := by subst hW; go_simp
  have f3 : W.frozen? ⟨w.heap.size + 1, 3, none⟩ = false := by subst hW; go_simp
  have r4 : W.cell? ⟨w.heap.size + 1, 4, none⟩ = some (.slice none 0 0) := by subst hW; go_simp
  have f4 : W.frozen? ⟨w.heap.size + 1, 4, none⟩ = false := by subst hW; go_simp
  have HW : Below w.heap.size w W := by subst hW; exact (((Below.refl w.heap.size w).alloc (Nat.le_refl _) _).alloc (by simp) _)
  have l0 : w.heap.size < W.heap.size := by subst hW; simp <;> omega
  have l1 : w.heap.size + 1 < W.heap.size := by subst hW; simp
  have n0 : w.heap.size ≠ w.heap.size + 1 := by omega
  rw [← hW]
  clear hW
  replace HW := Lib.hid HW
  refine (new_any a b d _ HA.out HB.out HD.out H0.out).mono ?_
  rintro e w1 ⟨A1, A2, A3, rfl, h1, hb1⟩
  replace s0_0 := keepc hb1 s0_0 l0
  replace s0_1 := keepc hb1 s0_1 l0
  replace s0_2 := keepc hb1 s0_2 l0
  replace r0 := keepc hb1 r0 l1
  replace f0 := keepf hb1 f0 l1
  replace r1 := keepc hb1 r1 l1
  replace f1 := keepf hb1 f1 l1
  replace r2 := keepc hb1 r2 l1
  replace f2 := keepf hb1 f2 l1
  replace r3 := keepc hb1 r3 l1
  replace f3 := keepf hb1 f3 l1
  replace r4 := keepc hb1 r4 l1
  replace f4 := keepf hb1 f4 l1
  replace l0 := Nat.lt_of_lt_of_le l0 hb1.size
  replace l1 := Nat.lt_of_lt_of_le l1 hb1.size
  replace HW := Lib.hid (hstep HW hb1)
  clear hb1
  go_wp2_with fail
  obtain ⟨X, hX⟩ : ∃ X : World, X = set5 w1 (w.heap.size + 1) (frz a b d) A1 A2 A3 := ⟨_, rfl⟩
  have hw : set5 w1 (w.heap.size + 1) (frz a b d) A1 A2 A3 = X := hX.symm
  unfold set5 at hw
  rw [hw]
  clear hw
  have c5 := set5_self (q := (frz a b d)) (A1 := A1) (A2 := A2) (A3 := A3) r0 r1 r2 r3 r4
  rw [← hX] at c5
  have HX : Hid (Below w.heap.size w X) := by rw [hX]; exact Lib.hid (set5_below HW.out (by omega))
  have hx := set5_num3 (q := (frz a b d)) (A1 := A1) (A2 := A2) (A3 := A3) h1 r0
  rw [← hX] at hx
  have lX : w.heap.size + 1 < X.heap.size := by rw [hX, set5_size]; exact l1
  clear hX
  obtain ⟨Y, hY⟩ : ∃ Y : World, Y = X.alloc (.cells #[.bool (sn (na (frz a b d))), .slice A1 (ln (ab (na (frz a b d)))) (ln (ab (na (frz a b d)))), .bool (sn (nb (frz a b d))), .slice A2 (ln (ab (nb (frz a b d)))) (ln (ab (nb (frz a b d)))), .slice A3 (ln (un (frz a b d))) (ln (un (frz a b d)))] 30) := ⟨_, rfl⟩
  have b1 : Below X.heap.size X Y := by rw [hY]; exact (Below.refl _ _).alloc (Nat.le_refl _) _
  rw [← hY]
  clear hY
  have hy := hx.to b1
  have k0 := keepc b1 c5.1 lX
  have k1 := keepc b1 c5.2.1 lX
  have k2 := keepc b1 c5.2.2.1 lX
  have k3 := keepc b1 c5.2.2.2.1 lX
  have k4 := keepc b1 c5.2.2.2.2 lX
  replace HX := Lib.hid (hstep HX b1)
  clear c5 r0 r1 r2 r3 r4 f0 f1 f2 f3 f4 b1
  exact bodyPost_ret (v := .agg #[.bool (sn (na (frz a b d))), .slice A1 (ln (ab (na (frz a b d)))) (ln (ab (na (frz a b d)))), .bool (sn (nb (frz a b d))), .slice A2 (ln (ab (nb (frz a b d)))) (ln (ab (nb (frz a b d)))), .slice A3 (ln (un (frz a b d))) (ln (un (frz a b d)))]) (by simp [results, Tryz.results58, go_sem, k0, k1, k2, k3, k4]) rfl ⟨A1, A2, A3, rfl, hy, HX.out⟩

set_option maxHeartbeats 4000000 in
theorem of_zero0 (a b : Int) (q : Cx) (w : World) (HN : ∀ w, Calls Tryz.prog 119 #[.int .i64 a, .int .i64 b, .int .i64 1] w (RetNumE w 0 q)) :
    Calls Tryz.prog 58 #[.agg #[.int .i64 a, .int .i64 b, .int .i64 0]] w (RetNum w q) := by
  go_enter Tryz.func58, Tryz.ntmps58
  go_wp2_with fail
  obtain ⟨W, hW⟩ : ∃ W : World, W = ((w.alloc (.cells #[.int .i64 a, .int .i64 b, .int .i64 1] 23)).alloc (.cells #[.bool false, .slice none 0 0, .bool false, .slice none 0 0, .slice none 0 0] 30)) := ⟨_, rfl⟩
  have s0_0 : W.cell? ⟨w.heap.size, 0, none⟩ = some (.int .i64 a) := by subst hW; go_simp
  have s0_1 : W.cell? ⟨w.heap.size, 1, none⟩ = some (.int .i64 b) := by subst hW; go_simp
  have s0_2 : W.cell? ⟨w.heap.size, 2, none⟩ = some (.int .i64 1) := by subst hW; go_simp
  have r0 : W.cell? ⟨w.heap.size + 1, 0, none⟩ = some (.bool false) := by subst hW; go_simp
  have f0 : W.frozen? ⟨w.heap.size + 1, 0, none⟩ = false := by subst hW; go_simp
  have r1 : W.cell? ⟨w.heap.size + 1, 1, none⟩ = some (.slice none 0 0) := by subst hW; go_simp
  have f1 : W.frozen? ⟨w.heap.size + 1, 1, none⟩ = false := by subst hW; go_simp
  have r2 : W.cell? ⟨w.heap.size + 1, 2, none⟩ = some (.bool false) := by subst hW; go_simp
  have f2 : W.frozen? ⟨w.heap.size + 1, 2, none⟩ = false := by subst hW; go_simp
  have r3 : W.cell? ⟨w.heap.size + 1, 3, none⟩ = some (.slice none 0 0) := by subst hW; go_simp
  have f3 : W.frozen? ⟨w.heap.size + 1, 3, none⟩ = false := by subst hW; go_simp
  have r4 : W.cell? ⟨w.heap.size + 1, 4, none⟩ = some (.slice none 0 0) := by subst hW; go_simp
  have f4 : W.frozen? ⟨w.heap.size + 1, 4, none⟩ = false := by subst hW; go_simp
  have HW : Below w.heap.size w W := by subst hW; exact (((Below.refl w.heap.size w).alloc (Nat.le_refl _) _).alloc (by simp) _)
  have l0 : w.heap.size < W.heap.size := by subst hW; simp <;> omega
  have l1 : w.heap.size + 1 < W.heap.size := by subst hW; simp
  have n0 : w.heap.size ≠ w.heap.size + 1 := by omega
  rw [← hW]
  clear hW
  replace HW := Lib.hid HW
  refine (HN _).mono ?_
  rintro e w1 ⟨A1, A2, A3, rfl, h1, hb1⟩
  replace s0_0 := keepc hb1 s0_0 l0
  replace s0_1 := keepc hb1 s0_1 l0
  replace s0_2 := keepc hb1 s0_2 l0
  replace r0 := keepc hb1 r0 l1
  replace f0 := keepf hb1 f0 l1
  replace r1 := keepc hb1 r1 l1
  replace f1 := keepf hb1 f1 l1
  replace r2 := keepc hb1 r2 l1
  replace f2 := keepf hb1 f2 l1
  replace r3 := keepc hb1 r3 l1
  replace f3 := keepf hb1 f3 l1
  replace r4 := keepc hb1 r4 l1
  replace f4 := keepf hb1 f4 l1
  replace l0 := Nat.lt_of_lt_of_le l0 hb1.size
  replace l1 := Nat.lt_of_lt_of_le l1 hb1.size
  replace HW := Lib.hid (hstep HW hb1)
  clear hb1
  go_wp2_with fail
  obtain ⟨X, hX⟩ : ∃ X : World, X = set5 w1 (w.heap.size + 1) q A1 A2 A3 := ⟨_, rfl⟩
  have hw : set5 w1 (w.heap.size + 1) q A1 A2 A3 = X := hX.symm
  unfold set5 at hw
  rw [hw]
  clear hw
  have c5 := set5_self (q := q) (A1 := A1) (A2 := A2) (A3 := A3) r0 r1 r2 r3 r4
  rw [← hX] at c5
  have HX : Hid (Below w.heap.size w X) := by rw [hX]; exact Lib.hid (set5_below HW.out (by omega))
  have hx := set5_num3 (q := q) (A1 := A1) (A2 := A2) (A3 := A3) h1 r0
  rw [← hX] at hx
  have lX : w.heap.size + 1 < X.heap.size := by rw [hX, set5_size]; exact l1
  clear hX
  obtain ⟨Y, hY⟩ : ∃ Y : World, Y = X.alloc (.cells #[.bool (sn (na q)), .slice A1 (ln (ab (na q))) (ln (ab (na q))), .bool (sn (nb q)), .slice A2 (ln (ab (nb q))) (ln (ab (nb q))), .slice A3 (ln (un q)) (ln (un q))] 30) := ⟨_, rfl⟩
  have b1 : Below X.heap.size X Y := by rw [hY]; exact (Below.refl _ _).alloc (Nat.le_refl _) _
  rw [← hY]
  clear hY
  have hy := hx.to b1
  have k0 := keepc b1 c5.1 lX
  have k1 := keepc b1 c5.2.1 lX
  have k2 := keepc b1 c5.2.2.1 lX
  have k3 := keepc b1 c5.2.2.2.1 lX
  have k4 := keepc b1 c5.2.2.2.2 lX
  replace HX := Lib.hid (hstep HX b1)
  clear c5 r0 r1 r2 r3 r4 f0 f1 f2 f3 f4 b1
  exact bodyPost_ret (v := .agg #[.bool (sn (na q)), .slice A1 (ln (ab (na q))) (ln (ab (na q))), .bool (sn (nb q)), .slice A2 (ln (ab (nb q))) (ln (ab (nb q))), .slice A3 (ln (un q)) (ln (un q))]) (by simp [results, Tryz.results58, go_sem, k0, k1, k2, k3, k4]) rfl ⟨A1, A2, A3, rfl, hy, HX.out⟩

/-- The number of plain data: a denominator of 0 means 1. -/
def ofv (a b d : Int) : Cx := frz a b (if d = 0 then 1 else d)
theorem of_any (a b d : Int) (w : World) (ha : -9223372036854775808 ≤ a ∧ a ≤ 9223372036854775807) (hb : -9223372036854775808 ≤ b ∧ b ≤ 9223372036854775807) (hd : -9223372036854775808 ≤ d ∧ d ≤ 9223372036854775807) :
    Calls Tryz.prog 58 #[.agg #[.int .i64 a, .int .i64 b, .int .i64 d]] w (RetNum w (ofv a b d)) := by
  by_cases h : d = 0
  · subst h; exact of_zero0 a b (frz a b 1) w (fun w => new_any a b 1 w ha hb (by omega) (by omega))
  · rw [show ofv a b d = frz a b d by unfold ofv; rw [if_neg h]]; exact of_more a b d w ha hb hd h
theorem sz_frz {a b d : Int} (ha : -9223372036854775808 ≤ a ∧ a ≤ 9223372036854775807) (hb : -9223372036854775808 ≤ b ∧ b ≤ 9223372036854775807) (hd : -9223372036854775808 ≤ d ∧ d ≤ 9223372036854775807) (h : d ≠ 0) : sz 2 (frz a b d) := by
  have xa := ab_small ha.1 ha.2
  have xb := ab_small hb.1 hb.2
  have xd := ab_small hd.1 hd.2
  have h0 : ab d ≠ 0 := by unfold ab; omega
  by_cases hp : 0 < d
  · rw [← frz_pos hp]; exact fr_sz h0 xa xb xd
  · rw [← frz_neg (by omega : d < 0)]; exact fr_sz h0 (by rw [ab_neg]; exact xa) (by rw [ab_neg]; exact xb) xd
theorem sz_of {a b d : Int} (ha : -9223372036854775808 ≤ a ∧ a ≤ 9223372036854775807) (hb : -9223372036854775808 ≤ b ∧ b ≤ 9223372036854775807) (hd : -9223372036854775808 ≤ d ∧ d ≤ 9223372036854775807) : sz 2 (ofv a b d) := by
  unfold ofv
  by_cases h : d = 0
  · rw [if_pos h]; exact sz_frz ha hb (by omega) (by omega)
  · rw [if_neg h]; exact sz_frz ha hb hd h

end Go.Proofs.YtgpmlhpgdalheaaGreat
