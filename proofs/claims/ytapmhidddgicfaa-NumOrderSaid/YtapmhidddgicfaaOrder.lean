/- NumOrder: the walk. -/
import Derived.Test.YtapmhidddgicfaaLawA
namespace Go.Proofs.Ytapmhidddgicfaa
open Go.RowKit Pl
set_option linter.unusedVariables false
set_option linter.unusedSimpArgs false

set_option maxHeartbeats 4000000 in
theorem order_walk (a1 a2 a3 b1 b2 b3 c1 c2 c3 : Int) (x y z : Cx) (n m k : Int) (w : World) (hn : cmpC x y = n) (hm : cmpC y z = m) (hk : cmpC x z = k) (zx : sz 2 x) (zy : sz 2 y) (zz : sz 2 z) (HA : ∀ w, Calls Try.prog 15 #[] w (RetBool w true)) (HO0 : ∀ w, Calls Try.prog 16 #[.agg #[.int .i64 a1, .int .i64 a2, .int .i64 a3]] w (RetNum w x)) (HO1 : ∀ w, Calls Try.prog 16 #[.agg #[.int .i64 b1, .int .i64 b2, .int .i64 b3]] w (RetNum w y)) (HO2 : ∀ w, Calls Try.prog 16 #[.agg #[.int .i64 c1, .int .i64 c2, .int .i64 c3]] w (RetNum w z)) :
    Calls Try.prog 5 #[.agg #[.int .i64 a1, .int .i64 a2, .int .i64 a3], .agg #[.int .i64 b1, .int .i64 b2, .int .i64 b3], .agg #[.int .i64 c1, .int .i64 c2, .int .i64 c3]] w (fun e w' => e = .returned (.bool true) ∧ Below w.heap.size w w') := by
  have HN := Lib.hid hn
  have HN1 : Hid (cmpC y x = IntKind.i64.wrap (-n)) := Lib.hid (by rw [cmpC_swap, hn]; rcases cmpC_vals x y with h | h | h <;> (rw [hn] at h; subst h; rfl))
  have HN2 : Hid (decide (x = y) = (n == 0)) := Lib.hid (by rw [Bool.eq_iff_iff, decide_eq_true_eq, beq_iff_eq, ← cmpC_zero, hn])
  have HN3 : Hid (cmpC (x.add z) (y.add z) = n) := Lib.hid (by rw [cmpC_add, hn])
  have t1 : decide (n < -1) = false := by rw [decide_eq_false_iff_not]; rcases cmpC_vals x y with h | h | h <;> omega
  have t2 : decide (1 < n) = false := by rw [decide_eq_false_iff_not]; rcases cmpC_vals x y with h | h | h <;> omega
  have HM := Lib.hid hm
  have HK := Lib.hid hk
  have HC : Hid ((decide (n ≤ 0) = false) ∨ (decide (n ≤ 0) = true ∧ decide (m ≤ 0) = false) ∨ (decide (n ≤ 0) = true ∧ decide (m ≤ 0) = true ∧ decide (0 < k) = false)) := Lib.hid (by have := @cmpC_trans x y z; rw [hn, hm, hk] at this; simp only [decide_eq_true_eq, decide_eq_false_iff_not]; omega)
  clear hn hm hk
  go_enter Try.func5, Try.ntmps5
  go_wp2_with fail
  obtain ⟨W, hW⟩ : ∃ W : World, W = (((w.alloc (.cells #[.int .i64 a1, .int .i64 a2, .int .i64 a3] 43)).alloc (.cells #[.int .i64 b1, .int .i64 b2, .int .i64 b3] 43)).alloc (.cells #[.int .i64 c1, .int .i64 c2, .int .i64 c3] 43)) := ⟨_, rfl⟩
  have s0_0 : W.cell? ⟨w.heap.size, 0, none⟩ = some (.int .i64 a1) := by subst hW; go_simp
  have s0_1 : W.cell? ⟨w.heap.size, 1, none⟩ = some (.int .i64 a2) := by subst hW; go_simp
  have s0_2 : W.cell? ⟨w.heap.size, 2, none⟩ = some (.int .i64 a3) := by subst hW; go_simp
  have s1_0 : W.cell? ⟨w.heap.size + 1, 0, none⟩ = some (.int .i64 b1) := by subst hW; go_simp
  have s1_1 : W.cell? ⟨w.heap.size + 1, 1, none⟩ = some (.int .i64 b2) := by subst hW; go_simp
  have s1_2 : W.cell? ⟨w.heap.size + 1, 2, none⟩ = some (.int .i64 b3) := by subst hW; go_simp
  have s2_0 : W.cell? ⟨w.heap.size + 1 + 1, 0, none⟩ = some (.int .i64 c1) := by subst hW; go_simp
  have s2_1 : W.cell? ⟨w.heap.size + 1 + 1, 1, none⟩ = some (.int .i64 c2) := by subst hW; go_simp
  have s2_2 : W.cell? ⟨w.heap.size + 1 + 1, 2, none⟩ = some (.int .i64 c3) := by subst hW; go_simp
  have HW : Below w.heap.size w W := by subst hW; exact ((((Below.refl w.heap.size w).alloc (Nat.le_refl _) _).alloc (by simp) _).alloc (by simp; omega) _)
  have l0 : w.heap.size < W.heap.size := by subst hW; simp <;> omega
  have l1 : w.heap.size + 1 < W.heap.size := by subst hW; simp <;> omega
  have l2 : w.heap.size + 1 + 1 < W.heap.size := by subst hW; simp
  rw [← hW]
  clear hW
  replace HW := Lib.hid HW
  obtain ⟨B0, hB0⟩ : ∃ B, B = w.heap.size + 1 + 1 + 1 := ⟨_, rfl⟩
  go_upto_region 1 with fail
  go_cut [7, 8, 9] (fun p q r wx => SlotHas wx p x ∧ SlotHas wx q y ∧ SlotHas wx r z ∧ Below w.heap.size w wx)
  case first =>
    refine wp_region_any (by kernel_rfl) ?_
    refine wpAny_inv (fun l a' w' => ∃ p0 p1 p2 d0 d1 d2 q0 q1 q2 : Value, a' = ⟨#[.agg #[.int .i64 a1, .int .i64 a2, .int .i64 a3], .agg #[.int .i64 b1, .int .i64 b2, .int .i64 b3], .agg #[.int .i64 c1, .int .i64 c2, .int .i64 c3], .pointer (some ⟨w.heap.size, 0, none⟩), .pointer (some ⟨w.heap.size + 1, 0, none⟩), .pointer (some ⟨w.heap.size + 1 + 1, 0, none⟩), .bool false, p0, p1, p2, undef, d0, q0, d1, q1, d2, q2, undef, undef, undef, undef, undef, undef, undef, undef, undef, undef, undef, undef, undef, undef, undef, undef, undef, undef, undef, undef, undef, undef, undef, undef, undef, undef, undef, undef, undef, undef, undef, undef, undef, undef, undef, undef, undef, undef, undef, undef, undef, undef, undef, undef, undef, undef, undef, undef, undef, undef, undef, undef, undef, undef, undef, undef, undef, undef, undef, undef, undef, undef], []⟩ ∧ Below w.heap.size w w' ∧ w'.cell? ⟨w.heap.size, 0, none⟩ = some (.int .i64 a1) ∧ w'.cell? ⟨w.heap.size, 1, none⟩ = some (.int .i64 a2) ∧ w'.cell? ⟨w.heap.size, 2, none⟩ = some (.int .i64 a3) ∧ w'.cell? ⟨w.heap.size + 1, 0, none⟩ = some (.int .i64 b1) ∧ w'.cell? ⟨w.heap.size + 1, 1, none⟩ = some (.int .i64 b2) ∧ w'.cell? ⟨w.heap.size + 1, 2, none⟩ = some (.int .i64 b3) ∧ w'.cell? ⟨w.heap.size + 1 + 1, 0, none⟩ = some (.int .i64 c1) ∧ w'.cell? ⟨w.heap.size + 1 + 1, 1, none⟩ = some (.int .i64 c2) ∧ w'.cell? ⟨w.heap.size + 1 + 1, 2, none⟩ = some (.int .i64 c3) ∧ B0 ≤ w'.heap.size ∧ (on l 0 = true → d0 = .agg #[.int .i64 a1, .int .i64 a2, .int .i64 a3]) ∧ (on l 2 = true → d1 = .agg #[.int .i64 b1, .int .i64 b2, .int .i64 b3]) ∧ (on l 4 = true → d2 = .agg #[.int .i64 c1, .int .i64 c2, .int .i64 c3]) ∧ (on l 1 = true → SlotNum w' q0 x) ∧ (on l 3 = true → SlotNum w' q1 y) ∧ (on l 5 = true → SlotNum w' q2 z) ∧ (on l 6 = true → SlotVar B0 w' p0) ∧ (on l 7 = true → SlotVar B0 w' p1) ∧ (on l 8 = true → SlotVar B0 w' p2) ∧ (on l 6 = true → on l 7 = true → p0 ≠ p1) ∧ (on l 6 = true → on l 8 = true → p0 ≠ p2) ∧ (on l 7 = true → on l 8 = true → p1 ≠ p2) ∧ (on l 9 = true → SlotHas w' p0 x) ∧ (on l 10 = true → SlotHas w' p1 y) ∧ (on l 11 = true → SlotHas w' p2 z) ∧ (on l 9 = true → on l 6 = true) ∧ (on l 10 = true → on l 7 = true) ∧ (on l 11 = true → on l 8 = true) ∧ l.size = 12) ?_ ?_ _ _ _ _ (by decide) ?_
    · intro l a' W' i hi hI
      obtain ⟨p0, p1, p2, d0, d1, d2, q0, q1, q2, rfl, hB, b0_0, b0_1, b0_2, b1_0, b1_1, b1_2, b2_0, b2_1, b2_2, lB, hd0, hd1, hd2, hq0, hq1, hq2, hp0, hp1, hp2, hn01, hn02, hn12, hs0, hs1, hs2, ho0, ho1, ho2, hz⟩ := hI
      obtain ⟨hlt, hoff, hpre⟩ := ready_pre hi
      have hc : i = 0 ∨ i = 1 ∨ i = 2 ∨ i = 3 ∨ i = 4 ∨ i = 5 ∨ i = 6 ∨ i = 7 ∨ i = 8 ∨ i = 9 ∨ i = 10 ∨ i = 11 := by have : i < 12 := hlt; omega
      clear hi hlt
      rcases hc with rfl | rfl | rfl | rfl | rfl | rfl | rfl | rfl | rfl | rfl | rfl | rfl
      · have hp := hpre _ rfl
        simp [Region.binds] at hp
        clear hpre
        clear hp
        refine wpOp_go rfl rfl (fun K hK => ?_)
        go_simp
        refine hK _ _ ?_
        clear hK K
        exact ⟨_, _, _, _, _, _, _, _, _, rfl, hB, b0_0, b0_1, b0_2, b1_0, b1_1, b1_2, b2_0, b2_1, b2_2, lB, fun _ => rfl, fun h => hd1 (on_ne h (by decide)), fun h => hd2 (on_ne h (by decide)), fun h => hq0 (on_ne h (by decide)), fun h => hq1 (on_ne h (by decide)), fun h => hq2 (on_ne h (by decide)), fun h => hp0 (on_ne h (by decide)), fun h => hp1 (on_ne h (by decide)), fun h => hp2 (on_ne h (by decide)), fun h h2 => hn01 (on_ne h (by decide)) (on_ne h2 (by decide)), fun h h2 => hn02 (on_ne h (by decide)) (on_ne h2 (by decide)), fun h h2 => hn12 (on_ne h (by decide)) (on_ne h2 (by decide)), fun h => hs0 (on_ne h (by decide)), fun h => hs1 (on_ne h (by decide)), fun h => hs2 (on_ne h (by decide)), fun h => on_mono (ho0 (on_ne h (by decide))), fun h => on_mono (ho1 (on_ne h (by decide))), fun h => on_mono (ho2 (on_ne h (by decide))), by simp [hz]⟩
      · have hp := hpre _ rfl
        simp [Region.binds] at hp
        clear hpre
        have e0 : d0 = .agg #[.int .i64 a1, .int .i64 a2, .int .i64 a3] := hd0 (by first | exact hp | exact hp.1 | exact hp.2)
        subst e0
        clear hp
        refine wpOp_go rfl rfl (fun K hK => ?_)
        go_wp2_with (first | (go_at_call 16; refine (HO0 _).mono ?_; rintro e w1 ⟨A1, A2, A3, rfl, h1, hb⟩))
        try refine hK _ _ ?_
        exact ⟨_, _, _, _, _, _, _, _, _, rfl, hB.trans (hb.mono hB.size), keepc hb b0_0 (by omega), keepc hb b0_1 (by omega), keepc hb b0_2 (by omega), keepc hb b1_0 (by omega), keepc hb b1_1 (by omega), keepc hb b1_2 (by omega), keepc hb b2_0 (by omega), keepc hb b2_1 (by omega), keepc hb b2_2 (by omega), Nat.le_trans lB hb.size, fun h => rfl, fun h => hd1 (on_ne h (by decide)), fun h => hd2 (on_ne h (by decide)), fun _ => ⟨A1, A2, A3, rfl, h1⟩, fun h => (hq1 (on_ne h (by decide))).to hb, fun h => (hq2 (on_ne h (by decide))).to hb, fun h => (hp0 (on_ne h (by decide))).to hb, fun h => (hp1 (on_ne h (by decide))).to hb, fun h => (hp2 (on_ne h (by decide))).to hb, fun h h2 => hn01 (on_ne h (by decide)) (on_ne h2 (by decide)), fun h h2 => hn02 (on_ne h (by decide)) (on_ne h2 (by decide)), fun h h2 => hn12 (on_ne h (by decide)) (on_ne h2 (by decide)), fun h => (hs0 (on_ne h (by decide))).to hb, fun h => (hs1 (on_ne h (by decide))).to hb, fun h => (hs2 (on_ne h (by decide))).to hb, fun h => on_mono (ho0 (on_ne h (by decide))), fun h => on_mono (ho1 (on_ne h (by decide))), fun h => on_mono (ho2 (on_ne h (by decide))), by simp [hz]⟩
      · have hp := hpre _ rfl
        simp [Region.binds] at hp
        clear hpre
        clear hp
        refine wpOp_go rfl rfl (fun K hK => ?_)
        go_simp
        refine hK _ _ ?_
        clear hK K
        exact ⟨_, _, _, _, _, _, _, _, _, rfl, hB, b0_0, b0_1, b0_2, b1_0, b1_1, b1_2, b2_0, b2_1, b2_2, lB, fun h => hd0 (on_ne h (by decide)), fun _ => rfl, fun h => hd2 (on_ne h (by decide)), fun h => hq0 (on_ne h (by decide)), fun h => hq1 (on_ne h (by decide)), fun h => hq2 (on_ne h (by decide)), fun h => hp0 (on_ne h (by decide)), fun h => hp1 (on_ne h (by decide)), fun h => hp2 (on_ne h (by decide)), fun h h2 => hn01 (on_ne h (by decide)) (on_ne h2 (by decide)), fun h h2 => hn02 (on_ne h (by decide)) (on_ne h2 (by decide)), fun h h2 => hn12 (on_ne h (by decide)) (on_ne h2 (by decide)), fun h => hs0 (on_ne h (by decide)), fun h => hs1 (on_ne h (by decide)), fun h => hs2 (on_ne h (by decide)), fun h => on_mono (ho0 (on_ne h (by decide))), fun h => on_mono (ho1 (on_ne h (by decide))), fun h => on_mono (ho2 (on_ne h (by decide))), by simp [hz]⟩
      · have hp := hpre _ rfl
        simp [Region.binds] at hp
        clear hpre
        have e0 : d1 = .agg #[.int .i64 b1, .int .i64 b2, .int .i64 b3] := hd1 (by first | exact hp | exact hp.1 | exact hp.2)
        subst e0
        clear hp
        refine wpOp_go rfl rfl (fun K hK => ?_)
        go_wp2_with (first | (go_at_call 16; refine (HO1 _).mono ?_; rintro e w1 ⟨A1, A2, A3, rfl, h1, hb⟩))
        try refine hK _ _ ?_
        exact ⟨_, _, _, _, _, _, _, _, _, rfl, hB.trans (hb.mono hB.size), keepc hb b0_0 (by omega), keepc hb b0_1 (by omega), keepc hb b0_2 (by omega), keepc hb b1_0 (by omega), keepc hb b1_1 (by omega), keepc hb b1_2 (by omega), keepc hb b2_0 (by omega), keepc hb b2_1 (by omega), keepc hb b2_2 (by omega), Nat.le_trans lB hb.size, fun h => hd0 (on_ne h (by decide)), fun h => rfl, fun h => hd2 (on_ne h (by decide)), fun h => (hq0 (on_ne h (by decide))).to hb, fun _ => ⟨A1, A2, A3, rfl, h1⟩, fun h => (hq2 (on_ne h (by decide))).to hb, fun h => (hp0 (on_ne h (by decide))).to hb, fun h => (hp1 (on_ne h (by decide))).to hb, fun h => (hp2 (on_ne h (by decide))).to hb, fun h h2 => hn01 (on_ne h (by decide)) (on_ne h2 (by decide)), fun h h2 => hn02 (on_ne h (by decide)) (on_ne h2 (by decide)), fun h h2 => hn12 (on_ne h (by decide)) (on_ne h2 (by decide)), fun h => (hs0 (on_ne h (by decide))).to hb, fun h => (hs1 (on_ne h (by decide))).to hb, fun h => (hs2 (on_ne h (by decide))).to hb, fun h => on_mono (ho0 (on_ne h (by decide))), fun h => on_mono (ho1 (on_ne h (by decide))), fun h => on_mono (ho2 (on_ne h (by decide))), by simp [hz]⟩
      · have hp := hpre _ rfl
        simp [Region.binds] at hp
        clear hpre
        clear hp
        refine wpOp_go rfl rfl (fun K hK => ?_)
        go_simp
        refine hK _ _ ?_
        clear hK K
        exact ⟨_, _, _, _, _, _, _, _, _, rfl, hB, b0_0, b0_1, b0_2, b1_0, b1_1, b1_2, b2_0, b2_1, b2_2, lB, fun h => hd0 (on_ne h (by decide)), fun h => hd1 (on_ne h (by decide)), fun _ => rfl, fun h => hq0 (on_ne h (by decide)), fun h => hq1 (on_ne h (by decide)), fun h => hq2 (on_ne h (by decide)), fun h => hp0 (on_ne h (by decide)), fun h => hp1 (on_ne h (by decide)), fun h => hp2 (on_ne h (by decide)), fun h h2 => hn01 (on_ne h (by decide)) (on_ne h2 (by decide)), fun h h2 => hn02 (on_ne h (by decide)) (on_ne h2 (by decide)), fun h h2 => hn12 (on_ne h (by decide)) (on_ne h2 (by decide)), fun h => hs0 (on_ne h (by decide)), fun h => hs1 (on_ne h (by decide)), fun h => hs2 (on_ne h (by decide)), fun h => on_mono (ho0 (on_ne h (by decide))), fun h => on_mono (ho1 (on_ne h (by decide))), fun h => on_mono (ho2 (on_ne h (by decide))), by simp [hz]⟩
      · have hp := hpre _ rfl
        simp [Region.binds] at hp
        clear hpre
        have e0 : d2 = .agg #[.int .i64 c1, .int .i64 c2, .int .i64 c3] := hd2 (by first | exact hp | exact hp.1 | exact hp.2)
        subst e0
        clear hp
        refine wpOp_go rfl rfl (fun K hK => ?_)
        go_wp2_with (first | (go_at_call 16; refine (HO2 _).mono ?_; rintro e w1 ⟨A1, A2, A3, rfl, h1, hb⟩))
        try refine hK _ _ ?_
        exact ⟨_, _, _, _, _, _, _, _, _, rfl, hB.trans (hb.mono hB.size), keepc hb b0_0 (by omega), keepc hb b0_1 (by omega), keepc hb b0_2 (by omega), keepc hb b1_0 (by omega), keepc hb b1_1 (by omega), keepc hb b1_2 (by omega), keepc hb b2_0 (by omega), keepc hb b2_1 (by omega), keepc hb b2_2 (by omega), Nat.le_trans lB hb.size, fun h => hd0 (on_ne h (by decide)), fun h => hd1 (on_ne h (by decide)), fun h => rfl, fun h => (hq0 (on_ne h (by decide))).to hb, fun h => (hq1 (on_ne h (by decide))).to hb, fun _ => ⟨A1, A2, A3, rfl, h1⟩, fun h => (hp0 (on_ne h (by decide))).to hb, fun h => (hp1 (on_ne h (by decide))).to hb, fun h => (hp2 (on_ne h (by decide))).to hb, fun h h2 => hn01 (on_ne h (by decide)) (on_ne h2 (by decide)), fun h h2 => hn02 (on_ne h (by decide)) (on_ne h2 (by decide)), fun h h2 => hn12 (on_ne h (by decide)) (on_ne h2 (by decide)), fun h => (hs0 (on_ne h (by decide))).to hb, fun h => (hs1 (on_ne h (by decide))).to hb, fun h => (hs2 (on_ne h (by decide))).to hb, fun h => on_mono (ho0 (on_ne h (by decide))), fun h => on_mono (ho1 (on_ne h (by decide))), fun h => on_mono (ho2 (on_ne h (by decide))), by simp [hz]⟩
      · have hp := hpre _ rfl
        simp [Region.binds] at hp
        clear hpre
        clear hp
        refine wpOp_go rfl rfl (fun K hK => ?_)
        go_simp
        refine hK _ _ ?_
        clear hK K
        have hb : Below W'.heap.size W' (W'.alloc (.cells #[.bool false, .slice none 0 0, .bool false, .slice none 0 0, .slice none 0 0] 27)) := (Below.refl _ _).alloc (Nat.le_refl _) _
        exact ⟨_, _, _, _, _, _, _, _, _, rfl, hB.trans (hb.mono hB.size), keepc hb b0_0 (by omega), keepc hb b0_1 (by omega), keepc hb b0_2 (by omega), keepc hb b1_0 (by omega), keepc hb b1_1 (by omega), keepc hb b1_2 (by omega), keepc hb b2_0 (by omega), keepc hb b2_1 (by omega), keepc hb b2_2 (by omega), Nat.le_trans lB hb.size, fun h => hd0 (on_ne h (by decide)), fun h => hd1 (on_ne h (by decide)), fun h => hd2 (on_ne h (by decide)), fun h => (hq0 (on_ne h (by decide))).to hb, fun h => (hq1 (on_ne h (by decide))).to hb, fun h => (hq2 (on_ne h (by decide))).to hb, fun _ => SlotVar.new lB, fun h => (hp1 (on_ne h (by decide))).to hb, fun h => (hp2 (on_ne h (by decide))).to hb, fun h h2 => Ne.symm (hp1 (on_ne h2 (by decide))).ne, fun h h2 => Ne.symm (hp2 (on_ne h2 (by decide))).ne, fun h h2 => hn12 (on_ne h (by decide)) (on_ne h2 (by decide)), fun h => absurd (ho0 (on_ne h (by decide))) (off hoff), fun h => (hs1 (on_ne h (by decide))).to hb, fun h => (hs2 (on_ne h (by decide))).to hb, fun h => absurd (ho0 (on_ne h (by decide))) (off hoff), fun h => on_mono (ho1 (on_ne h (by decide))), fun h => on_mono (ho2 (on_ne h (by decide))), by simp [hz]⟩
      · have hp := hpre _ rfl
        simp [Region.binds] at hp
        clear hpre
        clear hp
        refine wpOp_go rfl rfl (fun K hK => ?_)
        go_simp
        refine hK _ _ ?_
        clear hK K
        have hb : Below W'.heap.size W' (W'.alloc (.cells #[.bool false, .slice none 0 0, .bool false, .slice none 0 0, .slice none 0 0] 27)) := (Below.refl _ _).alloc (Nat.le_refl _) _
        exact ⟨_, _, _, _, _, _, _, _, _, rfl, hB.trans (hb.mono hB.size), keepc hb b0_0 (by omega), keepc hb b0_1 (by omega), keepc hb b0_2 (by omega), keepc hb b1_0 (by omega), keepc hb b1_1 (by omega), keepc hb b1_2 (by omega), keepc hb b2_0 (by omega), keepc hb b2_1 (by omega), keepc hb b2_2 (by omega), Nat.le_trans lB hb.size, fun h => hd0 (on_ne h (by decide)), fun h => hd1 (on_ne h (by decide)), fun h => hd2 (on_ne h (by decide)), fun h => (hq0 (on_ne h (by decide))).to hb, fun h => (hq1 (on_ne h (by decide))).to hb, fun h => (hq2 (on_ne h (by decide))).to hb, fun h => (hp0 (on_ne h (by decide))).to hb, fun _ => SlotVar.new lB, fun h => (hp2 (on_ne h (by decide))).to hb, fun h h2 => (hp0 (on_ne h (by decide))).ne, fun h h2 => hn02 (on_ne h (by decide)) (on_ne h2 (by decide)), fun h h2 => Ne.symm (hp2 (on_ne h2 (by decide))).ne, fun h => (hs0 (on_ne h (by decide))).to hb, fun h => absurd (ho1 (on_ne h (by decide))) (off hoff), fun h => (hs2 (on_ne h (by decide))).to hb, fun h => on_mono (ho0 (on_ne h (by decide))), fun h => absurd (ho1 (on_ne h (by decide))) (off hoff), fun h => on_mono (ho2 (on_ne h (by decide))), by simp [hz]⟩
      · have hp := hpre _ rfl
        simp [Region.binds] at hp
        clear hpre
        clear hp
        refine wpOp_go rfl rfl (fun K hK => ?_)
        go_simp
        refine hK _ _ ?_
        clear hK K
        have hb : Below W'.heap.size W' (W'.alloc (.cells #[.bool false, .slice none 0 0, .bool false, .slice none 0 0, .slice none 0 0] 27)) := (Below.refl _ _).alloc (Nat.le_refl _) _
        exact ⟨_, _, _, _, _, _, _, _, _, rfl, hB.trans (hb.mono hB.size), keepc hb b0_0 (by omega), keepc hb b0_1 (by omega), keepc hb b0_2 (by omega), keepc hb b1_0 (by omega), keepc hb b1_1 (by omega), keepc hb b1_2 (by omega), keepc hb b2_0 (by omega), keepc hb b2_1 (by omega), keepc hb b2_2 (by omega), Nat.le_trans lB hb.size, fun h => hd0 (on_ne h (by decide)), fun h => hd1 (on_ne h (by decide)), fun h => hd2 (on_ne h (by decide)), fun h => (hq0 (on_ne h (by decide))).to hb, fun h => (hq1 (on_ne h (by decide))).to hb, fun h => (hq2 (on_ne h (by decide))).to hb, fun h => (hp0 (on_ne h (by decide))).to hb, fun h => (hp1 (on_ne h (by decide))).to hb, fun _ => SlotVar.new lB, fun h h2 => hn01 (on_ne h (by decide)) (on_ne h2 (by decide)), fun h h2 => (hp0 (on_ne h (by decide))).ne, fun h h2 => (hp1 (on_ne h (by decide))).ne, fun h => (hs0 (on_ne h (by decide))).to hb, fun h => (hs1 (on_ne h (by decide))).to hb, fun h => absurd (ho2 (on_ne h (by decide))) (off hoff), fun h => on_mono (ho0 (on_ne h (by decide))), fun h => on_mono (ho1 (on_ne h (by decide))), fun h => absurd (ho2 (on_ne h (by decide))) (off hoff), by simp [hz]⟩
      · have hp := hpre _ rfl
        simp [Region.binds] at hp
        clear hpre
        have hv := hp0 (by simp [hp])
        obtain ⟨A1, A2, A3, e1, n1⟩ := hq0 (by simp [hp])
        have hv2 := hv
        obtain ⟨g, e2, g1, g2, ⟨c, v1, v2, v3, v4, c0, c1, c2, c3, c4⟩, f0, f1, f2, f3, f4⟩ := hv2
        subst e1; subst e2
        refine wpOp_go rfl rfl (fun K hK => ?_)
        go_simp
        refine hK _ _ ?_
        clear hK K
        obtain ⟨X, hX⟩ : ∃ X : World, X = set5 W' g x A1 A2 A3 := ⟨_, rfl⟩
        have hw : set5 W' g x A1 A2 A3 = X := hX.symm
        unfold set5 at hw
        rw [hw]
        clear hw
        subst hX
        exact ⟨_, _, _, _, _, _, _, _, _, rfl, set5_below hB (by omega), set5_cell b0_0 (by omega), set5_cell b0_1 (by omega), set5_cell b0_2 (by omega), set5_cell b1_0 (by omega), set5_cell b1_1 (by omega), set5_cell b1_2 (by omega), set5_cell b2_0 (by omega), set5_cell b2_1 (by omega), set5_cell b2_2 (by omega), by rw [set5_size]; exact lB, fun h => by first | exact hd0 (on_ne h (by decide)) | rfl, fun h => by first | exact hd1 (on_ne h (by decide)) | rfl, fun h => by first | exact hd2 (on_ne h (by decide)) | rfl, fun h => SlotNum.set5 (hq0 (on_ne h (by decide))) c0, fun h => SlotNum.set5 (hq1 (on_ne h (by decide))) c0, fun h => SlotNum.set5 (hq2 (on_ne h (by decide))) c0, fun h => SlotVar.self5 hv, fun h => SlotVar.set5 (hp1 (on_ne h (by decide))) (Ne.symm (hn01 (by simp [hp]) (by simp [hp]))), fun h => SlotVar.set5 (hp2 (on_ne h (by decide))) (Ne.symm (hn02 (by simp [hp]) (by simp [hp]))), fun h h2 => hn01 (on_ne h (by decide)) (on_ne h2 (by decide)), fun h h2 => hn02 (on_ne h (by decide)) (on_ne h2 (by decide)), fun h h2 => hn12 (on_ne h (by decide)) (on_ne h2 (by decide)), fun h => SlotHas.mk5 hv n1, fun h => SlotHas.set5 (hs1 (on_ne h (by decide))) (Ne.symm (hn01 (by simp [hp]) (by simp [hp]))) c0, fun h => SlotHas.set5 (hs2 (on_ne h (by decide))) (Ne.symm (hn02 (by simp [hp]) (by simp [hp]))) c0, fun _ => on_mono (by simp [hp]), fun h => on_mono (ho1 (on_ne h (by decide))), fun h => on_mono (ho2 (on_ne h (by decide))), by simp [hz]⟩
      · have hp := hpre _ rfl
        simp [Region.binds] at hp
        clear hpre
        have hv := hp1 (by simp [hp])
        obtain ⟨A1, A2, A3, e1, n1⟩ := hq1 (by simp [hp])
        have hv2 := hv
        obtain ⟨g, e2, g1, g2, ⟨c, v1, v2, v3, v4, c0, c1, c2, c3, c4⟩, f0, f1, f2, f3, f4⟩ := hv2
        subst e1; subst e2
        refine wpOp_go rfl rfl (fun K hK => ?_)
        go_simp
        refine hK _ _ ?_
        clear hK K
        obtain ⟨X, hX⟩ : ∃ X : World, X = set5 W' g y A1 A2 A3 := ⟨_, rfl⟩
        have hw : set5 W' g y A1 A2 A3 = X := hX.symm
        unfold set5 at hw
        rw [hw]
        clear hw
        subst hX
        exact ⟨_, _, _, _, _, _, _, _, _, rfl, set5_below hB (by omega), set5_cell b0_0 (by omega), set5_cell b0_1 (by omega), set5_cell b0_2 (by omega), set5_cell b1_0 (by omega), set5_cell b1_1 (by omega), set5_cell b1_2 (by omega), set5_cell b2_0 (by omega), set5_cell b2_1 (by omega), set5_cell b2_2 (by omega), by rw [set5_size]; exact lB, fun h => by first | exact hd0 (on_ne h (by decide)) | rfl, fun h => by first | exact hd1 (on_ne h (by decide)) | rfl, fun h => by first | exact hd2 (on_ne h (by decide)) | rfl, fun h => SlotNum.set5 (hq0 (on_ne h (by decide))) c0, fun h => SlotNum.set5 (hq1 (on_ne h (by decide))) c0, fun h => SlotNum.set5 (hq2 (on_ne h (by decide))) c0, fun h => SlotVar.set5 (hp0 (on_ne h (by decide))) (hn01 (by simp [hp]) (by simp [hp])), fun h => SlotVar.self5 hv, fun h => SlotVar.set5 (hp2 (on_ne h (by decide))) (Ne.symm (hn12 (by simp [hp]) (by simp [hp]))), fun h h2 => hn01 (on_ne h (by decide)) (on_ne h2 (by decide)), fun h h2 => hn02 (on_ne h (by decide)) (on_ne h2 (by decide)), fun h h2 => hn12 (on_ne h (by decide)) (on_ne h2 (by decide)), fun h => SlotHas.set5 (hs0 (on_ne h (by decide))) (hn01 (by simp [hp]) (by simp [hp])) c0, fun h => SlotHas.mk5 hv n1, fun h => SlotHas.set5 (hs2 (on_ne h (by decide))) (Ne.symm (hn12 (by simp [hp]) (by simp [hp]))) c0, fun h => on_mono (ho0 (on_ne h (by decide))), fun _ => on_mono (by simp [hp]), fun h => on_mono (ho2 (on_ne h (by decide))), by simp [hz]⟩
      · have hp := hpre _ rfl
        simp [Region.binds] at hp
        clear hpre
        have hv := hp2 (by simp [hp])
        obtain ⟨A1, A2, A3, e1, n1⟩ := hq2 (by simp [hp])
        have hv2 := hv
        obtain ⟨g, e2, g1, g2, ⟨c, v1, v2, v3, v4, c0, c1, c2, c3, c4⟩, f0, f1, f2, f3, f4⟩ := hv2
        subst e1; subst e2
        refine wpOp_go rfl rfl (fun K hK => ?_)
        go_simp
        refine hK _ _ ?_
        clear hK K
        obtain ⟨X, hX⟩ : ∃ X : World, X = set5 W' g z A1 A2 A3 := ⟨_, rfl⟩
        have hw : set5 W' g z A1 A2 A3 = X := hX.symm
        unfold set5 at hw
        rw [hw]
        clear hw
        subst hX
        exact ⟨_, _, _, _, _, _, _, _, _, rfl, set5_below hB (by omega), set5_cell b0_0 (by omega), set5_cell b0_1 (by omega), set5_cell b0_2 (by omega), set5_cell b1_0 (by omega), set5_cell b1_1 (by omega), set5_cell b1_2 (by omega), set5_cell b2_0 (by omega), set5_cell b2_1 (by omega), set5_cell b2_2 (by omega), by rw [set5_size]; exact lB, fun h => by first | exact hd0 (on_ne h (by decide)) | rfl, fun h => by first | exact hd1 (on_ne h (by decide)) | rfl, fun h => by first | exact hd2 (on_ne h (by decide)) | rfl, fun h => SlotNum.set5 (hq0 (on_ne h (by decide))) c0, fun h => SlotNum.set5 (hq1 (on_ne h (by decide))) c0, fun h => SlotNum.set5 (hq2 (on_ne h (by decide))) c0, fun h => SlotVar.set5 (hp0 (on_ne h (by decide))) (hn02 (by simp [hp]) (by simp [hp])), fun h => SlotVar.set5 (hp1 (on_ne h (by decide))) (hn12 (by simp [hp]) (by simp [hp])), fun h => SlotVar.self5 hv, fun h h2 => hn01 (on_ne h (by decide)) (on_ne h2 (by decide)), fun h h2 => hn02 (on_ne h (by decide)) (on_ne h2 (by decide)), fun h h2 => hn12 (on_ne h (by decide)) (on_ne h2 (by decide)), fun h => SlotHas.set5 (hs0 (on_ne h (by decide))) (hn02 (by simp [hp]) (by simp [hp])) c0, fun h => SlotHas.set5 (hs1 (on_ne h (by decide))) (hn12 (by simp [hp]) (by simp [hp])) c0, fun h => SlotHas.mk5 hv n1, fun h => on_mono (ho0 (on_ne h (by decide))), fun h => on_mono (ho1 (on_ne h (by decide))), fun _ => on_mono (by simp [hp]), by simp [hz]⟩
    · intro l a' W' hr hI
      obtain ⟨p0, p1, p2, d0, d1, d2, q0, q1, q2, rfl, hB, b0_0, b0_1, b0_2, b1_0, b1_1, b1_2, b2_0, b2_1, b2_2, lB, hd0, hd1, hd2, hq0, hq1, hq2, hp0, hp1, hp2, hn01, hn02, hn12, hs0, hs1, hs2, ho0, ho1, ho2, hz⟩ := hI
      have a0 := not_ready (i := 0) hr hz rfl (by simp [Region.binds])
      have a1 := not_ready (i := 1) hr hz rfl (by simp [Region.binds, a0])
      have a2 := not_ready (i := 2) hr hz rfl (by simp [Region.binds, a0, a1])
      have a3 := not_ready (i := 3) hr hz rfl (by simp [Region.binds, a0, a1, a2])
      have a4 := not_ready (i := 4) hr hz rfl (by simp [Region.binds, a0, a1, a2, a3])
      have a5 := not_ready (i := 5) hr hz rfl (by simp [Region.binds, a0, a1, a2, a3, a4])
      have a6 := not_ready (i := 6) hr hz rfl (by simp [Region.binds, a0, a1, a2, a3, a4, a5])
      have a7 := not_ready (i := 7) hr hz rfl (by simp [Region.binds, a0, a1, a2, a3, a4, a5, a6])
      have a8 := not_ready (i := 8) hr hz rfl (by simp [Region.binds, a0, a1, a2, a3, a4, a5, a6, a7])
      have a9 := not_ready (i := 9) hr hz rfl (by simp [Region.binds, a0, a1, a2, a3, a4, a5, a6, a7, a8])
      have a10 := not_ready (i := 10) hr hz rfl (by simp [Region.binds, a0, a1, a2, a3, a4, a5, a6, a7, a8, a9])
      have a11 := not_ready (i := 11) hr hz rfl (by simp [Region.binds, a0, a1, a2, a3, a4, a5, a6, a7, a8, a9, a10])
      clear hr
      replace hs0 := hs0 a9
      replace hs1 := hs1 a10
      replace hs2 := hs2 a11
      clear b0_0 b0_1 b0_2 b1_0 b1_1 b1_2 b2_0 b2_1 b2_2 hd0 hd1 hd2 hq0 hq1 hq2 hp0 hp1 hp2 hn01 hn02 hn12 ho0 ho1 ho2 hz
      go_wp2_with fail
      go_meet
      exact ⟨hs0, hs1, hs2, hB⟩
    · exact ⟨_, _, _, _, _, _, _, _, _, rfl, ⟨HW.out.os, HW.out.tape, HW.out.output, HW.out.size, HW.out.block⟩, s0_0, s0_1, s0_2, s1_0, s1_1, s1_2, s2_0, s2_1, s2_2, by subst hB0; exact l2, fun h => absurd h (by decide), fun h => absurd h (by decide), fun h => absurd h (by decide), fun h => absurd h (by decide), fun h => absurd h (by decide), fun h => absurd h (by decide), fun h => absurd h (by decide), fun h => absurd h (by decide), fun h => absurd h (by decide), fun h _ => absurd h (by decide), fun h _ => absurd h (by decide), fun h _ => absurd h (by decide), fun h => absurd h (by decide), fun h => absurd h (by decide), fun h => absurd h (by decide), fun h => absurd h (by decide), fun h => absurd h (by decide), fun h => absurd h (by decide), by simp⟩
  case rest =>
    obtain ⟨hs0, hs1, hs2, hB⟩ := hcut
    obtain ⟨g0, X01, X02, X03, e0, V0⟩ := hs0.at
    subst e0
    obtain ⟨g1, X11, X12, X13, e1, V1⟩ := hs1.at
    subst e1
    obtain ⟨g2, X21, X22, X23, e2, V2⟩ := hs2.at
    subst e2
    clear hs0 hs1 hs2 hB0 HO0 HO1 HO2 HW s0_0 s0_1 s0_2 s1_0 s1_1 s1_2 s2_0 s2_1 s2_2 l0 l1 l2
    replace HW := Lib.hid hB
    clear hB
    obtain ⟨tV0_0, tV0_1, tV0_2, tV0_3, tV0_4⟩ := V0.2.1
    obtain ⟨tV1_0, tV1_1, tV1_2, tV1_3, tV1_4⟩ := V1.2.1
    obtain ⟨tV2_0, tV2_1, tV2_2, tV2_3, tV2_4⟩ := V2.2.1
    try go_wp2_with fail
    refine (cmp_to x y X01 X02 X03 X11 X12 X13 _ (by exact V0.2.2) (by exact V1.2.2) (zx.mono (by decide)) (zy.mono (by decide)) HN.out).mono ?_
    rintro e w101 ⟨rfl, hb101⟩
    clear tV0_0 tV0_1 tV0_2 tV0_3 tV0_4 tV1_0 tV1_1 tV1_2 tV1_3 tV1_4 tV2_0 tV2_1 tV2_2 tV2_3 tV2_4
    replace V0 := VarAt.to V0 hb101
    replace V1 := VarAt.to V1 hb101
    replace V2 := VarAt.to V2 hb101
    replace HW := Lib.hid (hstep HW hb101)
    clear hb101
    obtain ⟨tV0_0, tV0_1, tV0_2, tV0_3, tV0_4⟩ := V0.2.1
    obtain ⟨tV1_0, tV1_1, tV1_2, tV1_3, tV1_4⟩ := V1.2.1
    obtain ⟨tV2_0, tV2_1, tV2_2, tV2_3, tV2_4⟩ := V2.2.1
    go_wp2_with fail
    clear tV0_0 tV0_1 tV0_2 tV0_3 tV0_4 tV1_0 tV1_1 tV1_2 tV1_3 tV1_4 tV2_0 tV2_1 tV2_2 tV2_3 tV2_4
    go_region_held3 (fun w' => w'.cell? ⟨g0, 0, none⟩ = some (.bool (sn (na x))) ∧ w'.cell? ⟨g0, 1, none⟩ = some (.slice X01 (ln (ab (na x))) (ln (ab (na x)))) ∧ w'.cell? ⟨g0, 2, none⟩ = some (.bool (sn (nb x))) ∧ w'.cell? ⟨g0, 3, none⟩ = some (.slice X02 (ln (ab (nb x))) (ln (ab (nb x)))) ∧ w'.cell? ⟨g0, 4, none⟩ = some (.slice X03 (ln (un x)) (ln (un x))) ∧ w'.cell? ⟨g1, 0, none⟩ = some (.bool (sn (na y))) ∧ w'.cell? ⟨g1, 1, none⟩ = some (.slice X11 (ln (ab (na y))) (ln (ab (na y)))) ∧ w'.cell? ⟨g1, 2, none⟩ = some (.bool (sn (nb y))) ∧ w'.cell? ⟨g1, 3, none⟩ = some (.slice X12 (ln (ab (nb y))) (ln (ab (nb y)))) ∧ w'.cell? ⟨g1, 4, none⟩ = some (.slice X13 (ln (un y)) (ln (un y))) ∧ w'.cell? ⟨g2, 0, none⟩ = some (.bool (sn (na z))) ∧ w'.cell? ⟨g2, 1, none⟩ = some (.slice X21 (ln (ab (na z))) (ln (ab (na z)))) ∧ w'.cell? ⟨g2, 2, none⟩ = some (.bool (sn (nb z))) ∧ w'.cell? ⟨g2, 3, none⟩ = some (.slice X22 (ln (ab (nb z))) (ln (ab (nb z)))) ∧ w'.cell? ⟨g2, 4, none⟩ = some (.slice X23 (ln (un z)) (ln (un z)))) (first | with_reducible exact ⟨V0.2.1.1, V0.2.1.2.1, V0.2.1.2.2.1, V0.2.1.2.2.2.1, V0.2.1.2.2.2.2, V1.2.1.1, V1.2.1.2.1, V1.2.1.2.2.1, V1.2.1.2.2.2.1, V1.2.1.2.2.2.2, V2.2.1.1, V2.2.1.2.1, V2.2.1.2.2.1, V2.2.1.2.2.2.1, V2.2.1.2.2.2.2⟩ | exact ⟨V0.2.1.1, V0.2.1.2.1, V0.2.1.2.2.1, V0.2.1.2.2.2.1, V0.2.1.2.2.2.2, V1.2.1.1, V1.2.1.2.1, V1.2.1.2.2.1, V1.2.1.2.2.2.1, V1.2.1.2.2.2.2, V2.2.1.1, V2.2.1.2.1, V2.2.1.2.2.1, V2.2.1.2.2.2.1, V2.2.1.2.2.2.2⟩) (first
      | (have _ := mk105; go_at_call 26; refine (cmp_to (x.add z) (y.add z) P1041 P1042 P1043 P1051 P1052 P1053 _ (by exact h104) (by exact h105) ((sz_add (zx.mono (by decide : 2 ≤ 2)) (zz.mono (by decide : 2 ≤ 2))).mono (by decide)) ((sz_add (zy.mono (by decide : 2 ≤ 2)) (zz.mono (by decide : 2 ≤ 2))).mono (by decide)) HN3.out).mono ?_; rintro e w106 ⟨rfl, hb106⟩; replace V0 := VarAt.to V0 hb106; replace V1 := VarAt.to V1 hb106; replace V2 := VarAt.to V2 hb106; replace h104 := h104.to hb106; replace h105 := h105.to hb106; replace HW := Lib.hid (hstep HW hb106); clear hb106; clear h104; clear h105; have mk106 : True := trivial; clear mk105)
      | (have _ := mk104; go_at_call 17; refine (add_num y z X11 X12 X13 X21 X22 X23 _ (by exact V1.2.2) (by exact V2.2.2) (zy.mono (by decide)) (zz.mono (by decide))).mono ?_; rintro e w105 ⟨P1051, P1052, P1053, rfl, h105, hb105⟩; replace V0 := VarAt.to V0 hb105; replace V1 := VarAt.to V1 hb105; replace V2 := VarAt.to V2 hb105; replace h104 := h104.to hb105; replace HW := Lib.hid (hstep HW hb105); clear hb105; have mk105 : True := trivial; clear mk104)
      | (have _ := mk103; go_at_call 17; refine (add_num x z X01 X02 X03 X21 X22 X23 _ (by exact V0.2.2) (by exact V2.2.2) (zx.mono (by decide)) (zz.mono (by decide))).mono ?_; rintro e w104 ⟨P1041, P1042, P1043, rfl, h104, hb104⟩; replace V0 := VarAt.to V0 hb104; replace V1 := VarAt.to V1 hb104; replace V2 := VarAt.to V2 hb104; replace HW := Lib.hid (hstep HW hb104); clear hb104; have mk104 : True := trivial; clear mk103)
      | (have _ := mk102; go_at_call 18; refine (same_to x y X01 X02 X03 X11 X12 X13 _ (by exact V0.2.2) (by exact V1.2.2) (zx.mono (by decide)) (zy.mono (by decide)) HN2.out).mono ?_; rintro e w103 ⟨rfl, hb103⟩; replace V0 := VarAt.to V0 hb103; replace V1 := VarAt.to V1 hb103; replace V2 := VarAt.to V2 hb103; replace HW := Lib.hid (hstep HW hb103); clear hb103; have mk103 : True := trivial; clear mk102)
      | (go_at_call 26; refine (cmp_to y x X11 X12 X13 X01 X02 X03 _ (by exact V1.2.2) (by exact V0.2.2) (zy.mono (by decide)) (zx.mono (by decide)) HN1.out).mono ?_; rintro e w102 ⟨rfl, hb102⟩; have hb102 := undrew hb102; replace V0 := VarAt.to V0 hb102; replace V1 := VarAt.to V1 hb102; replace V2 := VarAt.to V2 hb102; replace HW := Lib.hid (hstep HW hb102); clear hb102; have mk102 : True := trivial))
    go_wp2_with fail
    rcases HC.out with t5 | ⟨t5, t6⟩ | ⟨t5, t6, t7⟩
    · obtain ⟨tV0_0, tV0_1, tV0_2, tV0_3, tV0_4⟩ := V0.2.1
      obtain ⟨tV1_0, tV1_1, tV1_2, tV1_3, tV1_4⟩ := V1.2.1
      obtain ⟨tV2_0, tV2_1, tV2_2, tV2_3, tV2_4⟩ := V2.2.1
      try go_wp2_with fail
      refine (cmp_to x y X01 X02 X03 X11 X12 X13 _ (by exact V0.2.2) (by exact V1.2.2) (zx.mono (by decide)) (zy.mono (by decide)) HN.out).mono ?_
      rintro e w107 ⟨rfl, hb107⟩
      clear tV0_0 tV0_1 tV0_2 tV0_3 tV0_4 tV1_0 tV1_1 tV1_2 tV1_3 tV1_4 tV2_0 tV2_1 tV2_2 tV2_3 tV2_4
      replace V0 := VarAt.to V0 hb107
      replace V1 := VarAt.to V1 hb107
      replace V2 := VarAt.to V2 hb107
      replace HW := Lib.hid (hstep HW hb107)
      clear hb107
      obtain ⟨tV0_0, tV0_1, tV0_2, tV0_3, tV0_4⟩ := V0.2.1
      obtain ⟨tV1_0, tV1_1, tV1_2, tV1_3, tV1_4⟩ := V1.2.1
      obtain ⟨tV2_0, tV2_1, tV2_2, tV2_3, tV2_4⟩ := V2.2.1
      go_wp2_with fail
      clear tV0_0 tV0_1 tV0_2 tV0_3 tV0_4 tV1_0 tV1_1 tV1_2 tV1_3 tV1_4 tV2_0 tV2_1 tV2_2 tV2_3 tV2_4
      go_region_held3 (fun w' => w'.cell? ⟨g0, 0, none⟩ = some (.bool (sn (na x))) ∧ w'.cell? ⟨g0, 1, none⟩ = some (.slice X01 (ln (ab (na x))) (ln (ab (na x)))) ∧ w'.cell? ⟨g0, 2, none⟩ = some (.bool (sn (nb x))) ∧ w'.cell? ⟨g0, 3, none⟩ = some (.slice X02 (ln (ab (nb x))) (ln (ab (nb x)))) ∧ w'.cell? ⟨g0, 4, none⟩ = some (.slice X03 (ln (un x)) (ln (un x))) ∧ w'.cell? ⟨g1, 0, none⟩ = some (.bool (sn (na y))) ∧ w'.cell? ⟨g1, 1, none⟩ = some (.slice X11 (ln (ab (na y))) (ln (ab (na y)))) ∧ w'.cell? ⟨g1, 2, none⟩ = some (.bool (sn (nb y))) ∧ w'.cell? ⟨g1, 3, none⟩ = some (.slice X12 (ln (ab (nb y))) (ln (ab (nb y)))) ∧ w'.cell? ⟨g1, 4, none⟩ = some (.slice X13 (ln (un y)) (ln (un y))) ∧ w'.cell? ⟨g2, 0, none⟩ = some (.bool (sn (na z))) ∧ w'.cell? ⟨g2, 1, none⟩ = some (.slice X21 (ln (ab (na z))) (ln (ab (na z)))) ∧ w'.cell? ⟨g2, 2, none⟩ = some (.bool (sn (nb z))) ∧ w'.cell? ⟨g2, 3, none⟩ = some (.slice X22 (ln (ab (nb z))) (ln (ab (nb z)))) ∧ w'.cell? ⟨g2, 4, none⟩ = some (.slice X23 (ln (un z)) (ln (un z)))) (first | with_reducible exact ⟨V0.2.1.1, V0.2.1.2.1, V0.2.1.2.2.1, V0.2.1.2.2.2.1, V0.2.1.2.2.2.2, V1.2.1.1, V1.2.1.2.1, V1.2.1.2.2.1, V1.2.1.2.2.2.1, V1.2.1.2.2.2.2, V2.2.1.1, V2.2.1.2.1, V2.2.1.2.2.1, V2.2.1.2.2.2.1, V2.2.1.2.2.2.2⟩ | exact ⟨V0.2.1.1, V0.2.1.2.1, V0.2.1.2.2.1, V0.2.1.2.2.2.1, V0.2.1.2.2.2.2, V1.2.1.1, V1.2.1.2.1, V1.2.1.2.2.1, V1.2.1.2.2.2.1, V1.2.1.2.2.2.2, V2.2.1.1, V2.2.1.2.1, V2.2.1.2.2.1, V2.2.1.2.2.2.1, V2.2.1.2.2.2.2⟩) (first
        | (have _ := mk111; go_at_call 15; refine (HA _).mono ?_; rintro e w112 ⟨rfl, hb112⟩; replace V0 := VarAt.to V0 hb112; replace V1 := VarAt.to V1 hb112; replace V2 := VarAt.to V2 hb112; replace HW := Lib.hid (hstep HW hb112); clear hb112; have mk112 : True := trivial; clear mk111)
        | (have _ := mk110; go_at_call 26; refine (cmp_to x.imOf (Cx.ofInt (0)) P1091 P1092 P1093 P1101 P1102 P1103 _ (by exact h109) (by exact h110) ((sz_im zx).mono (by decide)) ((sz_int0).mono (by decide)) (side_cmp x)).mono ?_; rintro e w111 ⟨rfl, hb111⟩; replace V0 := VarAt.to V0 hb111; replace V1 := VarAt.to V1 hb111; replace V2 := VarAt.to V2 hb111; replace h109 := h109.to hb111; replace h110 := h110.to hb111; replace HW := Lib.hid (hstep HW hb111); clear hb111; clear h109; clear h110; have mk111 : True := trivial; clear mk110)
        | (have _ := mk109; go_at_call 13; refine (int_any (0) _ (by omega) (by omega)).mono ?_; rintro e w110 ⟨P1101, P1102, P1103, rfl, h110, hb110⟩; replace V0 := VarAt.to V0 hb110; replace V1 := VarAt.to V1 hb110; replace V2 := VarAt.to V2 hb110; replace h109 := h109.to hb110; replace HW := Lib.hid (hstep HW hb110); clear hb110; have mk110 : True := trivial; clear mk109)
        | (have _ := mk108; go_at_call 28; refine (im_num x X01 X02 X03 _ (by exact V0.2.2) (zx.mono (by decide))).mono ?_; rintro e w109 ⟨P1091, P1092, P1093, rfl, h109, hb109⟩; replace V0 := VarAt.to V0 hb109; replace V1 := VarAt.to V1 hb109; replace V2 := VarAt.to V2 hb109; replace HW := Lib.hid (hstep HW hb109); clear hb109; have mk109 : True := trivial; clear mk108)
        | (go_at_call 27; refine (side_to x X01 X02 X03 _ (by exact V0.2.2) (zx.mono (by decide)) rfl).mono ?_; rintro e w108 ⟨rfl, hb108⟩; have hb108 := undrew hb108; replace V0 := VarAt.to V0 hb108; replace V1 := VarAt.to V1 hb108; replace V2 := VarAt.to V2 hb108; replace HW := Lib.hid (hstep HW hb108); clear hb108; have mk108 : True := trivial))
      go_wp2_with fail
      exact bodyPost_ret (v := .bool true) (by simp [results, Try.results5, go_sem]) rfl ⟨rfl, HW.out⟩
    · obtain ⟨tV0_0, tV0_1, tV0_2, tV0_3, tV0_4⟩ := V0.2.1
      obtain ⟨tV1_0, tV1_1, tV1_2, tV1_3, tV1_4⟩ := V1.2.1
      obtain ⟨tV2_0, tV2_1, tV2_2, tV2_3, tV2_4⟩ := V2.2.1
      try go_wp2_with fail
      refine (cmp_to x y X01 X02 X03 X11 X12 X13 _ (by exact V0.2.2) (by exact V1.2.2) (zx.mono (by decide)) (zy.mono (by decide)) HN.out).mono ?_
      rintro e w107 ⟨rfl, hb107⟩
      clear tV0_0 tV0_1 tV0_2 tV0_3 tV0_4 tV1_0 tV1_1 tV1_2 tV1_3 tV1_4 tV2_0 tV2_1 tV2_2 tV2_3 tV2_4
      replace V0 := VarAt.to V0 hb107
      replace V1 := VarAt.to V1 hb107
      replace V2 := VarAt.to V2 hb107
      replace HW := Lib.hid (hstep HW hb107)
      clear hb107
      obtain ⟨tV0_0, tV0_1, tV0_2, tV0_3, tV0_4⟩ := V0.2.1
      obtain ⟨tV1_0, tV1_1, tV1_2, tV1_3, tV1_4⟩ := V1.2.1
      obtain ⟨tV2_0, tV2_1, tV2_2, tV2_3, tV2_4⟩ := V2.2.1
      go_wp2_with fail
      refine (cmp_to y z X11 X12 X13 X21 X22 X23 _ (by exact V1.2.2) (by exact V2.2.2) (zy.mono (by decide)) (zz.mono (by decide)) HM.out).mono ?_
      rintro e w108 ⟨rfl, hb108⟩
      clear tV0_0 tV0_1 tV0_2 tV0_3 tV0_4 tV1_0 tV1_1 tV1_2 tV1_3 tV1_4 tV2_0 tV2_1 tV2_2 tV2_3 tV2_4
      replace V0 := VarAt.to V0 hb108
      replace V1 := VarAt.to V1 hb108
      replace V2 := VarAt.to V2 hb108
      replace HW := Lib.hid (hstep HW hb108)
      clear hb108
      obtain ⟨tV0_0, tV0_1, tV0_2, tV0_3, tV0_4⟩ := V0.2.1
      obtain ⟨tV1_0, tV1_1, tV1_2, tV1_3, tV1_4⟩ := V1.2.1
      obtain ⟨tV2_0, tV2_1, tV2_2, tV2_3, tV2_4⟩ := V2.2.1
      go_wp2_with fail
      clear tV0_0 tV0_1 tV0_2 tV0_3 tV0_4 tV1_0 tV1_1 tV1_2 tV1_3 tV1_4 tV2_0 tV2_1 tV2_2 tV2_3 tV2_4
      go_region_held3 (fun w' => w'.cell? ⟨g0, 0, none⟩ = some (.bool (sn (na x))) ∧ w'.cell? ⟨g0, 1, none⟩ = some (.slice X01 (ln (ab (na x))) (ln (ab (na x)))) ∧ w'.cell? ⟨g0, 2, none⟩ = some (.bool (sn (nb x))) ∧ w'.cell? ⟨g0, 3, none⟩ = some (.slice X02 (ln (ab (nb x))) (ln (ab (nb x)))) ∧ w'.cell? ⟨g0, 4, none⟩ = some (.slice X03 (ln (un x)) (ln (un x))) ∧ w'.cell? ⟨g1, 0, none⟩ = some (.bool (sn (na y))) ∧ w'.cell? ⟨g1, 1, none⟩ = some (.slice X11 (ln (ab (na y))) (ln (ab (na y)))) ∧ w'.cell? ⟨g1, 2, none⟩ = some (.bool (sn (nb y))) ∧ w'.cell? ⟨g1, 3, none⟩ = some (.slice X12 (ln (ab (nb y))) (ln (ab (nb y)))) ∧ w'.cell? ⟨g1, 4, none⟩ = some (.slice X13 (ln (un y)) (ln (un y))) ∧ w'.cell? ⟨g2, 0, none⟩ = some (.bool (sn (na z))) ∧ w'.cell? ⟨g2, 1, none⟩ = some (.slice X21 (ln (ab (na z))) (ln (ab (na z)))) ∧ w'.cell? ⟨g2, 2, none⟩ = some (.bool (sn (nb z))) ∧ w'.cell? ⟨g2, 3, none⟩ = some (.slice X22 (ln (ab (nb z))) (ln (ab (nb z)))) ∧ w'.cell? ⟨g2, 4, none⟩ = some (.slice X23 (ln (un z)) (ln (un z)))) (first | with_reducible exact ⟨V0.2.1.1, V0.2.1.2.1, V0.2.1.2.2.1, V0.2.1.2.2.2.1, V0.2.1.2.2.2.2, V1.2.1.1, V1.2.1.2.1, V1.2.1.2.2.1, V1.2.1.2.2.2.1, V1.2.1.2.2.2.2, V2.2.1.1, V2.2.1.2.1, V2.2.1.2.2.1, V2.2.1.2.2.2.1, V2.2.1.2.2.2.2⟩ | exact ⟨V0.2.1.1, V0.2.1.2.1, V0.2.1.2.2.1, V0.2.1.2.2.2.1, V0.2.1.2.2.2.2, V1.2.1.1, V1.2.1.2.1, V1.2.1.2.2.1, V1.2.1.2.2.2.1, V1.2.1.2.2.2.2, V2.2.1.1, V2.2.1.2.1, V2.2.1.2.2.1, V2.2.1.2.2.2.1, V2.2.1.2.2.2.2⟩) (first
        | (have _ := mk112; go_at_call 15; refine (HA _).mono ?_; rintro e w113 ⟨rfl, hb113⟩; replace V0 := VarAt.to V0 hb113; replace V1 := VarAt.to V1 hb113; replace V2 := VarAt.to V2 hb113; replace HW := Lib.hid (hstep HW hb113); clear hb113; have mk113 : True := trivial; clear mk112)
        | (have _ := mk111; go_at_call 26; refine (cmp_to x.imOf (Cx.ofInt (0)) P1101 P1102 P1103 P1111 P1112 P1113 _ (by exact h110) (by exact h111) ((sz_im zx).mono (by decide)) ((sz_int0).mono (by decide)) (side_cmp x)).mono ?_; rintro e w112 ⟨rfl, hb112⟩; replace V0 := VarAt.to V0 hb112; replace V1 := VarAt.to V1 hb112; replace V2 := VarAt.to V2 hb112; replace h110 := h110.to hb112; replace h111 := h111.to hb112; replace HW := Lib.hid (hstep HW hb112); clear hb112; clear h110; clear h111; have mk112 : True := trivial; clear mk111)
        | (have _ := mk110; go_at_call 13; refine (int_any (0) _ (by omega) (by omega)).mono ?_; rintro e w111 ⟨P1111, P1112, P1113, rfl, h111, hb111⟩; replace V0 := VarAt.to V0 hb111; replace V1 := VarAt.to V1 hb111; replace V2 := VarAt.to V2 hb111; replace h110 := h110.to hb111; replace HW := Lib.hid (hstep HW hb111); clear hb111; have mk111 : True := trivial; clear mk110)
        | (have _ := mk109; go_at_call 28; refine (im_num x X01 X02 X03 _ (by exact V0.2.2) (zx.mono (by decide))).mono ?_; rintro e w110 ⟨P1101, P1102, P1103, rfl, h110, hb110⟩; replace V0 := VarAt.to V0 hb110; replace V1 := VarAt.to V1 hb110; replace V2 := VarAt.to V2 hb110; replace HW := Lib.hid (hstep HW hb110); clear hb110; have mk110 : True := trivial; clear mk109)
        | (go_at_call 27; refine (side_to x X01 X02 X03 _ (by exact V0.2.2) (zx.mono (by decide)) rfl).mono ?_; rintro e w109 ⟨rfl, hb109⟩; have hb109 := undrew hb109; replace V0 := VarAt.to V0 hb109; replace V1 := VarAt.to V1 hb109; replace V2 := VarAt.to V2 hb109; replace HW := Lib.hid (hstep HW hb109); clear hb109; have mk109 : True := trivial))
      go_wp2_with fail
      exact bodyPost_ret (v := .bool true) (by simp [results, Try.results5, go_sem]) rfl ⟨rfl, HW.out⟩
    · obtain ⟨tV0_0, tV0_1, tV0_2, tV0_3, tV0_4⟩ := V0.2.1
      obtain ⟨tV1_0, tV1_1, tV1_2, tV1_3, tV1_4⟩ := V1.2.1
      obtain ⟨tV2_0, tV2_1, tV2_2, tV2_3, tV2_4⟩ := V2.2.1
      try go_wp2_with fail
      refine (cmp_to x y X01 X02 X03 X11 X12 X13 _ (by exact V0.2.2) (by exact V1.2.2) (zx.mono (by decide)) (zy.mono (by decide)) HN.out).mono ?_
      rintro e w107 ⟨rfl, hb107⟩
      clear tV0_0 tV0_1 tV0_2 tV0_3 tV0_4 tV1_0 tV1_1 tV1_2 tV1_3 tV1_4 tV2_0 tV2_1 tV2_2 tV2_3 tV2_4
      replace V0 := VarAt.to V0 hb107
      replace V1 := VarAt.to V1 hb107
      replace V2 := VarAt.to V2 hb107
      replace HW := Lib.hid (hstep HW hb107)
      clear hb107
      obtain ⟨tV0_0, tV0_1, tV0_2, tV0_3, tV0_4⟩ := V0.2.1
      obtain ⟨tV1_0, tV1_1, tV1_2, tV1_3, tV1_4⟩ := V1.2.1
      obtain ⟨tV2_0, tV2_1, tV2_2, tV2_3, tV2_4⟩ := V2.2.1
      go_wp2_with fail
      refine (cmp_to y z X11 X12 X13 X21 X22 X23 _ (by exact V1.2.2) (by exact V2.2.2) (zy.mono (by decide)) (zz.mono (by decide)) HM.out).mono ?_
      rintro e w108 ⟨rfl, hb108⟩
      clear tV0_0 tV0_1 tV0_2 tV0_3 tV0_4 tV1_0 tV1_1 tV1_2 tV1_3 tV1_4 tV2_0 tV2_1 tV2_2 tV2_3 tV2_4
      replace V0 := VarAt.to V0 hb108
      replace V1 := VarAt.to V1 hb108
      replace V2 := VarAt.to V2 hb108
      replace HW := Lib.hid (hstep HW hb108)
      clear hb108
      obtain ⟨tV0_0, tV0_1, tV0_2, tV0_3, tV0_4⟩ := V0.2.1
      obtain ⟨tV1_0, tV1_1, tV1_2, tV1_3, tV1_4⟩ := V1.2.1
      obtain ⟨tV2_0, tV2_1, tV2_2, tV2_3, tV2_4⟩ := V2.2.1
      go_wp2_with fail
      refine (cmp_to x z X01 X02 X03 X21 X22 X23 _ (by exact V0.2.2) (by exact V2.2.2) (zx.mono (by decide)) (zz.mono (by decide)) HK.out).mono ?_
      rintro e w109 ⟨rfl, hb109⟩
      clear tV0_0 tV0_1 tV0_2 tV0_3 tV0_4 tV1_0 tV1_1 tV1_2 tV1_3 tV1_4 tV2_0 tV2_1 tV2_2 tV2_3 tV2_4
      replace V0 := VarAt.to V0 hb109
      replace V1 := VarAt.to V1 hb109
      replace V2 := VarAt.to V2 hb109
      replace HW := Lib.hid (hstep HW hb109)
      clear hb109
      obtain ⟨tV0_0, tV0_1, tV0_2, tV0_3, tV0_4⟩ := V0.2.1
      obtain ⟨tV1_0, tV1_1, tV1_2, tV1_3, tV1_4⟩ := V1.2.1
      obtain ⟨tV2_0, tV2_1, tV2_2, tV2_3, tV2_4⟩ := V2.2.1
      go_wp2_with fail
      clear tV0_0 tV0_1 tV0_2 tV0_3 tV0_4 tV1_0 tV1_1 tV1_2 tV1_3 tV1_4 tV2_0 tV2_1 tV2_2 tV2_3 tV2_4
      go_region_held3 (fun w' => w'.cell? ⟨g0, 0, none⟩ = some (.bool (sn (na x))) ∧ w'.cell? ⟨g0, 1, none⟩ = some (.slice X01 (ln (ab (na x))) (ln (ab (na x)))) ∧ w'.cell? ⟨g0, 2, none⟩ = some (.bool (sn (nb x))) ∧ w'.cell? ⟨g0, 3, none⟩ = some (.slice X02 (ln (ab (nb x))) (ln (ab (nb x)))) ∧ w'.cell? ⟨g0, 4, none⟩ = some (.slice X03 (ln (un x)) (ln (un x))) ∧ w'.cell? ⟨g1, 0, none⟩ = some (.bool (sn (na y))) ∧ w'.cell? ⟨g1, 1, none⟩ = some (.slice X11 (ln (ab (na y))) (ln (ab (na y)))) ∧ w'.cell? ⟨g1, 2, none⟩ = some (.bool (sn (nb y))) ∧ w'.cell? ⟨g1, 3, none⟩ = some (.slice X12 (ln (ab (nb y))) (ln (ab (nb y)))) ∧ w'.cell? ⟨g1, 4, none⟩ = some (.slice X13 (ln (un y)) (ln (un y))) ∧ w'.cell? ⟨g2, 0, none⟩ = some (.bool (sn (na z))) ∧ w'.cell? ⟨g2, 1, none⟩ = some (.slice X21 (ln (ab (na z))) (ln (ab (na z)))) ∧ w'.cell? ⟨g2, 2, none⟩ = some (.bool (sn (nb z))) ∧ w'.cell? ⟨g2, 3, none⟩ = some (.slice X22 (ln (ab (nb z))) (ln (ab (nb z)))) ∧ w'.cell? ⟨g2, 4, none⟩ = some (.slice X23 (ln (un z)) (ln (un z)))) (first | with_reducible exact ⟨V0.2.1.1, V0.2.1.2.1, V0.2.1.2.2.1, V0.2.1.2.2.2.1, V0.2.1.2.2.2.2, V1.2.1.1, V1.2.1.2.1, V1.2.1.2.2.1, V1.2.1.2.2.2.1, V1.2.1.2.2.2.2, V2.2.1.1, V2.2.1.2.1, V2.2.1.2.2.1, V2.2.1.2.2.2.1, V2.2.1.2.2.2.2⟩ | exact ⟨V0.2.1.1, V0.2.1.2.1, V0.2.1.2.2.1, V0.2.1.2.2.2.1, V0.2.1.2.2.2.2, V1.2.1.1, V1.2.1.2.1, V1.2.1.2.2.1, V1.2.1.2.2.2.1, V1.2.1.2.2.2.2, V2.2.1.1, V2.2.1.2.1, V2.2.1.2.2.1, V2.2.1.2.2.2.1, V2.2.1.2.2.2.2⟩) (first
        | (have _ := mk113; go_at_call 15; refine (HA _).mono ?_; rintro e w114 ⟨rfl, hb114⟩; replace V0 := VarAt.to V0 hb114; replace V1 := VarAt.to V1 hb114; replace V2 := VarAt.to V2 hb114; replace HW := Lib.hid (hstep HW hb114); clear hb114; have mk114 : True := trivial; clear mk113)
        | (have _ := mk112; go_at_call 26; refine (cmp_to x.imOf (Cx.ofInt (0)) P1111 P1112 P1113 P1121 P1122 P1123 _ (by exact h111) (by exact h112) ((sz_im zx).mono (by decide)) ((sz_int0).mono (by decide)) (side_cmp x)).mono ?_; rintro e w113 ⟨rfl, hb113⟩; replace V0 := VarAt.to V0 hb113; replace V1 := VarAt.to V1 hb113; replace V2 := VarAt.to V2 hb113; replace h111 := h111.to hb113; replace h112 := h112.to hb113; replace HW := Lib.hid (hstep HW hb113); clear hb113; clear h111; clear h112; have mk113 : True := trivial; clear mk112)
        | (have _ := mk111; go_at_call 13; refine (int_any (0) _ (by omega) (by omega)).mono ?_; rintro e w112 ⟨P1121, P1122, P1123, rfl, h112, hb112⟩; replace V0 := VarAt.to V0 hb112; replace V1 := VarAt.to V1 hb112; replace V2 := VarAt.to V2 hb112; replace h111 := h111.to hb112; replace HW := Lib.hid (hstep HW hb112); clear hb112; have mk112 : True := trivial; clear mk111)
        | (have _ := mk110; go_at_call 28; refine (im_num x X01 X02 X03 _ (by exact V0.2.2) (zx.mono (by decide))).mono ?_; rintro e w111 ⟨P1111, P1112, P1113, rfl, h111, hb111⟩; replace V0 := VarAt.to V0 hb111; replace V1 := VarAt.to V1 hb111; replace V2 := VarAt.to V2 hb111; replace HW := Lib.hid (hstep HW hb111); clear hb111; have mk111 : True := trivial; clear mk110)
        | (go_at_call 27; refine (side_to x X01 X02 X03 _ (by exact V0.2.2) (zx.mono (by decide)) rfl).mono ?_; rintro e w110 ⟨rfl, hb110⟩; have hb110 := undrew hb110; replace V0 := VarAt.to V0 hb110; replace V1 := VarAt.to V1 hb110; replace V2 := VarAt.to V2 hb110; replace HW := Lib.hid (hstep HW hb110); clear hb110; have mk110 : True := trivial))
      go_wp2_with fail
      exact bodyPost_ret (v := .bool true) (by simp [results, Try.results5, go_sem]) rfl ⟨rfl, HW.out⟩

end Go.Proofs.Ytapmhidddgicfaa
