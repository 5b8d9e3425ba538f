/- 'slices.Clone' of a row of numbers; 'copied' of two rows. -/
import Derived.Test.YtgpmlhpgdalheaaGreatDet
import Derived.Test.YtgpmlhpgdalheaaGreatDig
import Derived.Deep.AppendLies
namespace Go.Proofs.YtgpmlhpgdalheaaGreat
open Go.RowKit Pl
set_option linter.unusedVariables false
set_option linter.unusedSimpArgs false

theorem Tryz.info_num : (Tryz.prog.info? 30).map (fun i => (i.zero, i.size, i.bytes)) = some (some (.agg #[.bool false, .slice none 0 0, .bool false, .slice none 0 0, .slice none 0 0]), 5, 88) := by kernel_rfl
theorem Tryz.und_nums : Tryz.prog.underlying 54 = some (.slice 30) := by kernel_rfl

set_option maxRecDepth 100000 in
set_option maxHeartbeats 1000000 in
theorem clone_any (w : World) (g m k : Nat) (xs : List Value) (hl : xs.length = m * 5) (hc : ∀ j u, xs[j]? = some u → w.cell? ⟨g, j, none⟩ = some u) (h1 : ∀ u ∈ xs, u.oneCell' = true) (hm : m * 88 ≤ 140737488355328) :
    Calls Tryz.prog 185 #[.slice (some ⟨g, 0, none⟩) m k] w fun e w' => ∃ v, e = .returned v ∧ w'.ownsRow w.heap.size 30 5 v m xs ∧ v ≠ .slice none 0 0 ∧ Below w.heap.size w w' := by
  obtain ⟨i0, hi, hz0, hz1, hz2⟩ := info_parts Tryz.info_num
  have hg : ∀ j u, xs[j]? = some u → g < w.heap.size := fun j u h => World.block_lt_of_cell? w ⟨g, j, none⟩ (hc j u h)
  have HC := Lib.hid hc
  have HL := Lib.hid hl
  have HG := Lib.hid hg
  have H1 := Lib.hid h1
  have HM := Lib.hid hm
  clear hc hg h1 hl hm
  have heq : ∀ w, (binOp .eql 54 (.slice (some ⟨g, 0, none⟩) m k) (.slice none 0 0)).run Tryz.prog w = .ok (.bool false) w := fun w => by kernel_rfl
  go_enter Tryz.func185, Tryz.ntmps185
  go_wp2_with (at_builtin; go_loud (refine wpList_append_own _ rfl _ _ 54 rfl w.heap.size 30 i0 (.agg #[.bool false, .slice none 0 0, .bool false, .slice none 0 0, .slice none 0 0]) 5 88 Tryz.und_nums hi hz0 hz1 hz2 rfl (by decide) _ 0 [] rfl (World.ownsRow_made w #[] 0 (Nat.le_refl _) (by unfold maxLen; omega) rfl) ⟨g, 0, none⟩ m k xs rfl HL.out (fun j u h => by rw [show (⟨g, 0, none⟩ : Addr).add j = ⟨g, j, none⟩ by simp only [Addr.add]; split <;> simp_all]; exact keepc ((Below.refl w.heap.size w).alloc (Nat.le_refl _) _) (HC.out j u h) (HG.out j u h)) H1.out (by have := HM.out; unfold maxLen; omega) (by have := HM.out; omega) (by simp) ?_; intro v1 w2 hown1 hgrow1 hnil1))
  go_ret
  have hn : v1 ≠ .slice none 0 0 := fun h => by have := (hnil1.1 h).1; cases this
  refine ⟨v1, rfl, ?_, hn, ?_⟩
  · have := hown1; rw [Nat.zero_add, List.nil_append] at this; exact this
  · exact ((Below.refl w.heap.size w).alloc (Nat.le_refl _) _).grown hgrow1 (by simp) (fun k h => by cases h; exact Nat.le_refl _)

theorem own_set {w : World} {b : Nat} {e : TypeId} {z n : Nat} {v u : Value} {xs : List Value} {p : Addr} (h : w.ownsRow b e z v n xs) (hp : p.block < b) : (w.setCell p u).ownsRow b e z v n xs :=
  h.kept (row := some p.block) ⟨rfl, rfl, rfl, by simp [World.setCell], fun k hk hne => Below.heap_setCell _ _ _ _ (fun e => hne (by rw [e]))⟩ (.inr (fun e => by have := (h.lt _ e).1; omega))

set_option maxRecDepth 100000 in
set_option maxHeartbeats 4000000 in
theorem copied2 (w : World) (b g0 g1 k0 k1 c : Nat) (xs0 xs1 : List Value) (m0 : w.cell? ⟨b, 0, none⟩ = some (.slice (some ⟨g0, 0, none⟩) 2 k0)) (m1 : w.cell? ⟨b, 1, none⟩ = some (.slice (some ⟨g1, 0, none⟩) 2 k1)) (hb : b < w.heap.size)
    (l0 : xs0.length = 2 * 5) (l1 : xs1.length = 2 * 5) (x0 : ∀ j u, xs0[j]? = some u → w.cell? ⟨g0, j, none⟩ = some u) (x1 : ∀ j u, xs1[j]? = some u → w.cell? ⟨g1, j, none⟩ = some u) (o0 : ∀ u ∈ xs0, u.oneCell' = true) (o1 : ∀ u ∈ xs1, u.oneCell' = true) (hg0 : g0 < w.heap.size) (hg1 : g1 < w.heap.size) :
    Calls Tryz.prog 152 #[.slice (some ⟨b, 0, none⟩) 2 c, .slice none 0 0] w fun e w' => ∃ p r0 r1 a0 a1, e = .returned (.slice (some ⟨p, 0, none⟩) 2 2) ∧ w'.cell? ⟨p, 0, none⟩ = some (.slice (some ⟨r0, 0, none⟩) 2 a0) ∧ w'.cell? ⟨p, 1, none⟩ = some (.slice (some ⟨r1, 0, none⟩) 2 a1) ∧
      w'.ownsRow (p + 1) 30 5 (.slice (some ⟨r0, 0, none⟩) 2 a0) 2 xs0 ∧ w'.ownsRow (p + 1) 30 5 (.slice (some ⟨r1, 0, none⟩) 2 a1) 2 xs1 ∧ r0 ≠ r1 ∧ w.heap.size ≤ p ∧ p < w'.heap.size ∧ w'.frozen? ⟨p, 0, none⟩ = false ∧ w'.frozen? ⟨p, 1, none⟩ = false ∧ Below w.heap.size w w' := by
  have hmk : ∀ w : World, (Instr.makeSlice 106 (.int .i64 2) (.int .i64 2)).run Tryz.prog w = .ok (.slice (some ⟨w.heap.size, 0, none⟩) 2 2) (w.alloc (.cells #[.slice none 0 0, .slice none 0 0] 54)) := fun _ => by kernel_rfl
  have L0 := Lib.hid l0
  have L1 := Lib.hid l1
  have X0 := Lib.hid x0
  have X1 := Lib.hid x1
  have O0 := Lib.hid o0
  have O1 := Lib.hid o1
  clear l0 l1 x0 x1 o0 o1
  go_enter Tryz.func152, Tryz.ntmps152
  go_wp2_with fail
  obtain ⟨W, hW⟩ : ∃ X : World, X = w.alloc (.cells #[.slice none 0 0, .slice none 0 0] 54) := ⟨_, rfl⟩
  rw [← hW]
  have HW : Hid (Below w.heap.size w W) := by rw [hW]; exact Lib.hid ((Below.refl _ _).alloc (Nat.le_refl _) _)
  replace m0 := keepc HW.out m0 hb
  replace m1 := keepc HW.out m1 hb
  have p0 : W.cell? ⟨w.heap.size, 0, none⟩ = some (.slice none 0 0) := by subst hW; go_simp
  have p1 : W.cell? ⟨w.heap.size, 1, none⟩ = some (.slice none 0 0) := by subst hW; go_simp
  have f0 : W.frozen? ⟨w.heap.size, 0, none⟩ = false := by subst hW; go_simp
  have f1 : W.frozen? ⟨w.heap.size, 1, none⟩ = false := by subst hW; go_simp
  have hp : w.heap.size < W.heap.size := by rw [hW]; simp
  have hz : W.heap.size = w.heap.size + 1 := by rw [hW]; simp
  clear hW hmk
  have hbp : b ≠ w.heap.size := by omega
  refine wp_loop_rounds 3 ?_
  rw [rounds_succ]
  go_wp2_with fail
  refine (clone_any W g0 2 k0 xs0 L0.out (fun j u h => keepc HW.out (X0.out j u h) hg0) O0.out (by omega)).mono ?_
  rintro e w1 ⟨v0, rfl, hv0, hn0, hb1⟩
  obtain ⟨r0, a0, rfl, hr0, hr0l⟩ := hv0.form (by omega)
  rw [hz] at hv0 hr0
  replace m0 := keepc hb1 m0 (by omega)
  replace m1 := keepc hb1 m1 (by omega)
  replace p0 := keepc hb1 p0 hp
  replace p1 := keepc hb1 p1 hp
  replace f0 := keepf hb1 f0 hp
  replace f1 := keepf hb1 f1 hp
  replace hp := Nat.lt_of_lt_of_le hp hb1.size
  replace HW := Lib.hid (hstep HW hb1)
  have hv0' := Lib.hid hv0
  clear hb1 hz hn0 hv0
  go_wp2_with fail
  obtain ⟨Y, hY⟩ : ∃ Y : World, Y = w1.setCell ⟨w.heap.size, 0, none⟩ (.slice (some ⟨r0, 0, none⟩) 2 a0) := ⟨_, rfl⟩
  rw [← hY]
  replace p0 := cell_self (u := .slice (some ⟨r0, 0, none⟩) 2 a0) p0
  replace p1 := keepo (R := w.heap.size) (j := 0) (u := .slice (some ⟨r0, 0, none⟩) 2 a0) p1 (.inr (by omega))
  replace f0 := keepof (R := w.heap.size) (j := 0) (u := .slice (some ⟨r0, 0, none⟩) 2 a0) f0
  replace f1 := keepof (R := w.heap.size) (j := 0) (u := .slice (some ⟨r0, 0, none⟩) 2 a0) f1
  replace m0 := keepo (R := w.heap.size) (j := 0) (u := .slice (some ⟨r0, 0, none⟩) 2 a0) m0 (.inl hbp)
  replace m1 := keepo (R := w.heap.size) (j := 0) (u := .slice (some ⟨r0, 0, none⟩) 2 a0) m1 (.inl hbp)
  rw [← hY] at p0 p1 f0 f1 m0 m1
  have HY : Hid (Below w.heap.size w Y) := by rw [hY]; exact Lib.hid (HW.out.setCell (by exact Nat.le_refl _) _)
  have hown0 : Hid (Y.ownsRow (w.heap.size + 1) 30 5 (.slice (some ⟨r0, 0, none⟩) 2 a0) 2 xs0) := by rw [hY]; exact Lib.hid (own_set hv0'.out (by show w.heap.size < _; omega))
  have hyz : Y.heap.size = w1.heap.size := by rw [hY]; simp [World.setCell]
  replace hp : w.heap.size < Y.heap.size := by omega
  have hr0l2 : r0 < Y.heap.size := by omega
  clear hY HW hv0' hr0l hyz
  refine wp_loop_rounds 1 ?_
  rw [rounds_succ]
  go_wp2_with fail
  rw [rounds_succ]
  go_wp2_with fail
  refine (clone_any Y g1 2 k1 xs1 L1.out (fun j u h => keepc HY.out (X1.out j u h) hg1) O1.out (by omega)).mono ?_
  rintro e w2 ⟨v1, rfl, hv1, hn1, hb2⟩
  obtain ⟨r1, a1, rfl, hr1, hr1l⟩ := hv1.form (by omega)
  replace m0 := keepc hb2 m0 (by omega)
  replace m1 := keepc hb2 m1 (by omega)
  replace p0 := keepc hb2 p0 hp
  replace p1 := keepc hb2 p1 hp
  replace f0 := keepf hb2 f0 hp
  replace f1 := keepf hb2 f1 hp
  replace hown0 := Lib.hid (own_below hown0.out hb2)
  have hne : Hid (r0 ≠ r1) := Lib.hid (by omega)
  have hv1' : Hid (w2.ownsRow (w.heap.size + 1) 30 5 (.slice (some ⟨r1, 0, none⟩) 2 a1) 2 xs1) := Lib.hid ⟨hv1.1, by
    rcases hv1.2 with h | ⟨g, cap, cur, e, h1, h2⟩
    · exact .inl h
    · exact .inr ⟨g, cap, cur, e, by omega, h2⟩⟩
  replace hp := Nat.lt_of_lt_of_le hp hb2.size
  replace HY := Lib.hid (hstep HY hb2)
  clear hb2 hn1 hv1
  go_wp2_with fail
  obtain ⟨Z, hZ⟩ : ∃ Y : World, Y = w2.setCell ⟨w.heap.size, 1, none⟩ (.slice (some ⟨r1, 0, none⟩) 2 a1) := ⟨_, rfl⟩
  rw [← hZ]
  replace p1 := cell_self (u := .slice (some ⟨r1, 0, none⟩) 2 a1) p1
  replace p0 := keepo (R := w.heap.size) (j := 1) (u := .slice (some ⟨r1, 0, none⟩) 2 a1) p0 (.inr (by omega))
  replace f0 := keepof (R := w.heap.size) (j := 1) (u := .slice (some ⟨r1, 0, none⟩) 2 a1) f0
  replace f1 := keepof (R := w.heap.size) (j := 1) (u := .slice (some ⟨r1, 0, none⟩) 2 a1) f1
  rw [← hZ] at p0 p1 f0 f1
  have HZ : Hid (Below w.heap.size w Z) := by rw [hZ]; exact Lib.hid (HY.out.setCell (by exact Nat.le_refl _) _)
  replace hown0 : Hid (Z.ownsRow (w.heap.size + 1) 30 5 (.slice (some ⟨r0, 0, none⟩) 2 a0) 2 xs0) := by rw [hZ]; exact Lib.hid (own_set hown0.out (by show w.heap.size < _; omega))
  have hown1 : Hid (Z.ownsRow (w.heap.size + 1) 30 5 (.slice (some ⟨r1, 0, none⟩) 2 a1) 2 xs1) := by rw [hZ]; exact Lib.hid (own_set hv1'.out (by show w.heap.size < _; omega))
  have hzl : w.heap.size < Z.heap.size := by rw [hZ]; simpa [World.setCell] using hp
  clear hZ HY hv1' m0 m1
  refine wp_loop_rounds 1 ?_
  rw [rounds_succ]
  go_wp2_with fail
  rw [rounds_succ]
  go_wp2_with fail
  go_ret
  exact ⟨w.heap.size, r0, r1, a0, a1, rfl, p0, p1, hown0.out, hown1.out, hne.out, Nat.le_refl _, hzl, f0, f1, HZ.out⟩

end Go.Proofs.YtgpmlhpgdalheaaGreat
