/- NumField: the walk. -/
import Derived.Test.YtapmhidddgicfaaLawB
namespace Go.Proofs.Ytapmhidddgicfaa
open Go.RowKit Pl
set_option linter.unusedVariables false
set_option linter.unusedSimpArgs false

/-- An operation is taken first; its slot is named. -/
theorem takeF {P : Program} {md : Region.Mode} {ops : Array Oper} {Q : Exit → Act → World → Prop} {S : World → Prop} {i d : Nat} {oi : Oper} {v : Value} {fuel : Nat} {listed : Array Bool} {a : Act} {w : World} (hi : ops[i]? = some oi) (hd : oi.dst = some d)
    (hs : Region.noSelect ops = true) (hf : Region.free md ops listed i = true) (hr : (Region.ready md ops listed).contains i = true)
    (hQ : ∀ c a w, Q (.panic c) (a.put oi.dst v) w → Q (.panic c) a w) (hy : YieldsIf P ops S oi v a) (hS : S w)
    (h : wpAnyH P md ops Q S fuel (listed.setIfInBounds i true) (a.put (some d) v) w) : wpAnyH P md ops Q S (fuel + 1) listed a w := by
  rw [← hd] at h; exact wpAnyH_take hi hs hf hr hQ hy hS h

set_option maxRecDepth 100000 in
set_option maxHeartbeats 40000000 in
theorem field_walk (a1 a2 a3 b1 b2 b3 c1 c2 c3 : Int) (x y z : Cx) (w : World) (zx : sz 2 x) (zy : sz 2 y) (zz : sz 2 z) (HA : ∀ w, Calls Try.prog 15 #[] w (RetBool w true)) (HO0 : ∀ w, Calls Try.prog 16 #[.agg #[.int .i64 a1, .int .i64 a2, .int .i64 a3]] w (RetNum w x)) (HO1 : ∀ w, Calls Try.prog 16 #[.agg #[.int .i64 b1, .int .i64 b2, .int .i64 b3]] w (RetNum w y)) (HO2 : ∀ w, Calls Try.prog 16 #[.agg #[.int .i64 c1, .int .i64 c2, .int .i64 c3]] w (RetNum w z)) :
    Calls Try.prog 4 #[.agg #[.int .i64 a1, .int .i64 a2, .int .i64 a3], .agg #[.int .i64 b1, .int .i64 b2, .int .i64 b3], .agg #[.int .i64 c1, .int .i64 c2, .int .i64 c3]] w (fun e w' => e = .returned (.bool true) ∧ Below w.heap.size w w') := by
  go_enter Try.func4, Try.ntmps4
  go_wp2_with fail
  obtain ⟨W, hW⟩ : ∃ W : World, W = (((w.alloc (.cells #[.int .i64 a1, .int .i64 a2, .int .i64 a3] 43)).alloc (.cells #[.int .i64 b1, .int .i64 b2, .int .i64 b3] 43)).alloc (.cells #[.int .i64 c1, .int .i64 c2, .int .i64 c3] 43)) := ⟨_, rfl⟩
  have s0_0 : W.cell? ⟨w.heap.size, 0, none⟩ = some (.int .i64 a1) := by subst hW; go_simp
  have s0_1 : W.cell? ⟨w.heap.size, 1, none⟩ = some (.int .i64 a2) := by subst hW; go_simp
  have s0_2 : W.cell? ⟨w.heap.size, 2, none⟩ = some (.int .i64 a3) := by subst hW; go_simp
  have s1_0 : W.cell? ⟨w.heap.size + 1, 0, none⟩ = some (.int .i64 b1) := by subst hW; go_simp
  have s1_1 : W.cell? ⟨w.heap.size + 1, 1, none⟩ = some (.int .i64 b2) := by subst hW; go_simp
  have s1_2 : W.cell? ⟨w.heap.size + 1, 2, none⟩ = some (.int .i64 b3) := by subst hW; go_simp
  have s2_0 : W.cell? ⟨w.heap.size + 1 + 1, 0, none⟩ = some (.int .i64 c1) := by subst hW; go_simp
  have s2_1 : W.cell? ⟨w.heap.size + 1 + 1, 1, none⟩ = some (.int .i64 c2) := by subst hW; go_simp
  have s2_2 : W.cell? ⟨w.heap.size + 1 + 1, 2, none⟩ = some (.int .i64 c3) := by subst hW; go_simp
  have HW : Below w.heap.size w W := by subst hW; exact ((((Below.refl w.heap.size w).alloc (Nat.le_refl _) _).alloc (by simp) _).alloc (by simp; omega) _)
  have l0 : w.heap.size < W.heap.size := by subst hW; simp <;> omega
  have l1 : w.heap.size + 1 < W.heap.size := by subst hW; simp <;> omega
  have l2 : w.heap.size + 1 + 1 < W.heap.size := by subst hW; simp
  rw [← hW]
  clear hW
  replace HW := Lib.hid HW
  obtain ⟨B0, hB0⟩ : ∃ B, B = w.heap.size + 1 + 1 + 1 := ⟨_, rfl⟩
  go_upto_region 1 with fail
  go_cut [7, 8, 9] (fun p q r wx => SlotHas wx p x ∧ SlotHas wx q y ∧ SlotHas wx r z ∧ Below w.heap.size w wx)
  case first =>
    refine wp_region_any (by kernel_rfl) ?_
    refine wpAny_inv (fun l a' w' => ∃ p0 p1 p2 d0 d1 d2 q0 q1 q2 : Value, a' = ⟨#[.agg #[.int .i64 a1, .int .i64 a2, .int .i64 a3], .agg #[.int .i64 b1, .int .i64 b2, .int .i64 b3], .agg #[.int .i64 c1, .int .i64 c2, .int .i64 c3], .pointer (some ⟨w.heap.size, 0, none⟩), .pointer (some ⟨w.heap.size + 1, 0, none⟩), .pointer (some ⟨w.heap.size + 1 + 1, 0, none⟩), .bool false, p0, p1, p2, undef, undef, d0, q0, d1, q1, d2, q2, undef, undef, undef, undef, undef, undef, undef, undef, undef, undef, undef, undef, undef, undef, undef, undef, undef, undef, undef, undef, undef, undef, undef, undef, undef, undef, undef, undef, undef, undef, undef, undef, undef, undef, undef, undef, undef, undef, undef, undef, undef, undef, undef, undef, undef, undef, undef, undef, undef, undef, undef, undef, undef, undef, undef, undef, undef, undef, undef, undef, undef, undef, undef, undef, undef, undef, undef, undef, undef, undef, undef, undef, undef, undef, undef, undef, undef, undef, undef, undef, undef, undef, undef, undef, undef, undef, undef, undef, undef, undef, undef, undef, undef, undef, undef, undef, undef, undef, undef, undef, undef, undef, undef, undef, undef, undef, undef, undef, undef, undef, undef, undef, undef, undef, undef, undef, undef, undef, undef, undef, undef, undef, undef, undef, undef, undef, undef, undef, undef, undef, undef, undef, undef, undef, undef, undef, undef, undef, undef, undef, undef, undef, undef, undef, undef, undef, undef, undef, undef, undef, undef, undef, undef, undef, undef, undef], []⟩ ∧ Below w.heap.size w w' ∧ w'.cell? ⟨w.heap.size, 0, none⟩ = some (.int .i64 a1) ∧ w'.cell? ⟨w.heap.size, 1, none⟩ = some (.int .i64 a2) ∧ w'.cell? ⟨w.heap.size, 2, none⟩ = some (.int .i64 a3) ∧ w'.cell? ⟨w.heap.size + 1, 0, none⟩ = some (.int .i64 b1) ∧ w'.cell? ⟨w.heap.size + 1, 1, none⟩ = some (.int .i64 b2) ∧ w'.cell? ⟨w.heap.size + 1, 2, none⟩ = some (.int .i64 b3) ∧ w'.cell? ⟨w.heap.size + 1 + 1, 0, none⟩ = some (.int .i64 c1) ∧ w'.cell? ⟨w.heap.size + 1 + 1, 1, none⟩ = some (.int .i64 c2) ∧ w'.cell? ⟨w.heap.size + 1 + 1, 2, none⟩ = some (.int .i64 c3) ∧ B0 ≤ w'.heap.size ∧ (on l 0 = true → d0 = .agg #[.int .i64 a1, .int .i64 a2, .int .i64 a3]) ∧ (on l 2 = true → d1 = .agg #[.int .i64 b1, .int .i64 b2, .int .i64 b3]) ∧ (on l 4 = true → d2 = .agg #[.int .i64 c1, .int .i64 c2, .int .i64 c3]) ∧ (on l 1 = true → SlotNum w' q0 x) ∧ (on l 3 = true → SlotNum w' q1 y) ∧ (on l 5 = true → SlotNum w' q2 z) ∧ (on l 6 = true → SlotVar B0 w' p0) ∧ (on l 7 = true → SlotVar B0 w' p1) ∧ (on l 8 = true → SlotVar B0 w' p2) ∧ (on l 6 = true → on l 7 = true → p0 ≠ p1) ∧ (on l 6 = true → on l 8 = true → p0 ≠ p2) ∧ (on l 7 = true → on l 8 = true → p1 ≠ p2) ∧ (on l 9 = true → SlotHas w' p0 x) ∧ (on l 10 = true → SlotHas w' p1 y) ∧ (on l 11 = true → SlotHas w' p2 z) ∧ (on l 9 = true → on l 6 = true) ∧ (on l 10 = true → on l 7 = true) ∧ (on l 11 = true → on l 8 = true) ∧ l.size = 12) ?_ ?_ _ _ _ _ (by decide) ?_
    · intro l a' W' i hi hI
      obtain ⟨p0, p1, p2, d0, d1, d2, q0, q1, q2, rfl, hB, b0_0, b0_1, b0_2, b1_0, b1_1, b1_2, b2_0, b2_1, b2_2, lB, hd0, hd1, hd2, hq0, hq1, hq2, hp0, hp1, hp2, hn01, hn02, hn12, hs0, hs1, hs2, ho0, ho1, ho2, hz⟩ := hI
      obtain ⟨hlt, hoff, hpre⟩ := ready_pre hi
      have hc : i = 0 ∨ i = 1 ∨ i = 2 ∨ i = 3 ∨ i = 4 ∨ i = 5 ∨ i = 6 ∨ i = 7 ∨ i = 8 ∨ i = 9 ∨ i = 10 ∨ i = 11 := by have : i < 12 := hlt; omega
      clear hi hlt
      rcases hc with rfl | rfl | rfl | rfl | rfl | rfl | rfl | rfl | rfl | rfl | rfl | rfl
      · have hp := hpre _ rfl
        simp [Region.binds] at hp
        clear hpre
        clear hp
        refine wpOp_go rfl rfl (fun K hK => ?_)
        go_simp
        refine hK _ _ ?_
        clear hK K
        exact ⟨_, _, _, _, _, _, _, _, _, rfl, hB, b0_0, b0_1, b0_2, b1_0, b1_1, b1_2, b2_0, b2_1, b2_2, lB, fun _ => rfl, fun h => hd1 (on_ne h (by decide)), fun h => hd2 (on_ne h (by decide)), fun h => hq0 (on_ne h (by decide)), fun h => hq1 (on_ne h (by decide)), fun h => hq2 (on_ne h (by decide)), fun h => hp0 (on_ne h (by decide)), fun h => hp1 (on_ne h (by decide)), fun h => hp2 (on_ne h (by decide)), fun h h2 => hn01 (on_ne h (by decide)) (on_ne h2 (by decide)), fun h h2 => hn02 (on_ne h (by decide)) (on_ne h2 (by decide)), fun h h2 => hn12 (on_ne h (by decide)) (on_ne h2 (by decide)), fun h => hs0 (on_ne h (by decide)), fun h => hs1 (on_ne h (by decide)), fun h => hs2 (on_ne h (by decide)), fun h => on_mono (ho0 (on_ne h (by decide))), fun h => on_mono (ho1 (on_ne h (by decide))), fun h => on_mono (ho2 (on_ne h (by decide))), by simp [hz]⟩
      · have hp := hpre _ rfl
        simp [Region.binds] at hp
        clear hpre
        have e0 : d0 = .agg #[.int .i64 a1, .int .i64 a2, .int .i64 a3] := hd0 (by first | exact hp | exact hp.1 | exact hp.2)
        subst e0
        clear hp
        refine wpOp_go rfl rfl (fun K hK => ?_)
        go_wp2_with (first | (go_at_call 16; refine (HO0 _).mono ?_; rintro e w1 ⟨A1, A2, A3, rfl, h1, hb⟩))
        try refine hK _ _ ?_
        exact ⟨_, _, _, _, _, _, _, _, _, rfl, hB.trans (hb.mono hB.size), keepc hb b0_0 (by omega), keepc hb b0_1 (by omega), keepc hb b0_2 (by omega), keepc hb b1_0 (by omega), keepc hb b1_1 (by omega), keepc hb b1_2 (by omega), keepc hb b2_0 (by omega), keepc hb b2_1 (by omega), keepc hb b2_2 (by omega), Nat.le_trans lB hb.size, fun h => rfl, fun h => hd1 (on_ne h (by decide)), fun h => hd2 (on_ne h (by decide)), fun _ => ⟨A1, A2, A3, rfl, h1⟩, fun h => (hq1 (on_ne h (by decide))).to hb, fun h => (hq2 (on_ne h (by decide))).to hb, fun h => (hp0 (on_ne h (by decide))).to hb, fun h => (hp1 (on_ne h (by decide))).to hb, fun h => (hp2 (on_ne h (by decide))).to hb, fun h h2 => hn01 (on_ne h (by decide)) (on_ne h2 (by decide)), fun h h2 => hn02 (on_ne h (by decide)) (on_ne h2 (by decide)), fun h h2 => hn12 (on_ne h (by decide)) (on_ne h2 (by decide)), fun h => (hs0 (on_ne h (by decide))).to hb, fun h => (hs1 (on_ne h (by decide))).to hb, fun h => (hs2 (on_ne h (by decide))).to hb, fun h => on_mono (ho0 (on_ne h (by decide))), fun h => on_mono (ho1 (on_ne h (by decide))), fun h => on_mono (ho2 (on_ne h (by decide))), by simp [hz]⟩
      · have hp := hpre _ rfl
        simp [Region.binds] at hp
        clear hpre
        clear hp
        refine wpOp_go rfl rfl (fun K hK => ?_)
        go_simp
        refine hK _ _ ?_
        clear hK K
        exact ⟨_, _, _, _, _, _, _, _, _, rfl, hB, b0_0, b0_1, b0_2, b1_0, b1_1, b1_2, b2_0, b2_1, b2_2, lB, fun h => hd0 (on_ne h (by decide)), fun _ => rfl, fun h => hd2 (on_ne h (by decide)), fun h => hq0 (on_ne h (by decide)), fun h => hq1 (on_ne h (by decide)), fun h => hq2 (on_ne h (by decide)), fun h => hp0 (on_ne h (by decide)), fun h => hp1 (on_ne h (by decide)), fun h => hp2 (on_ne h (by decide)), fun h h2 => hn01 (on_ne h (by decide)) (on_ne h2 (by decide)), fun h h2 => hn02 (on_ne h (by decide)) (on_ne h2 (by decide)), fun h h2 => hn12 (on_ne h (by decide)) (on_ne h2 (by decide)), fun h => hs0 (on_ne h (by decide)), fun h => hs1 (on_ne h (by decide)), fun h => hs2 (on_ne h (by decide)), fun h => on_mono (ho0 (on_ne h (by decide))), fun h => on_mono (ho1 (on_ne h (by decide))), fun h => on_mono (ho2 (on_ne h (by decide))), by simp [hz]⟩
      · have hp := hpre _ rfl
        simp [Region.binds] at hp
        clear hpre
        have e0 : d1 = .agg #[.int .i64 b1, .int .i64 b2, .int .i64 b3] := hd1 (by first | exact hp | exact hp.1 | exact hp.2)
        subst e0
        clear hp
        refine wpOp_go rfl rfl (fun K hK => ?_)
        go_wp2_with (first | (go_at_call 16; refine (HO1 _).mono ?_; rintro e w1 ⟨A1, A2, A3, rfl, h1, hb⟩))
        try refine hK _ _ ?_
        exact ⟨_, _, _, _, _, _, _, _, _, rfl, hB.trans (hb.mono hB.size), keepc hb b0_0 (by omega), keepc hb b0_1 (by omega), keepc hb b0_2 (by omega), keepc hb b1_0 (by omega), keepc hb b1_1 (by omega), keepc hb b1_2 (by omega), keepc hb b2_0 (by omega), keepc hb b2_1 (by omega), keepc hb b2_2 (by omega), Nat.le_trans lB hb.size, fun h => hd0 (on_ne h (by decide)), fun h => rfl, fun h => hd2 (on_ne h (by decide)), fun h => (hq0 (on_ne h (by decide))).to hb, fun _ => ⟨A1, A2, A3, rfl, h1⟩, fun h => (hq2 (on_ne h (by decide))).to hb, fun h => (hp0 (on_ne h (by decide))).to hb, fun h => (hp1 (on_ne h (by decide))).to hb, fun h => (hp2 (on_ne h (by decide))).to hb, fun h h2 => hn01 (on_ne h (by decide)) (on_ne h2 (by decide)), fun h h2 => hn02 (on_ne h (by decide)) (on_ne h2 (by decide)), fun h h2 => hn12 (on_ne h (by decide)) (on_ne h2 (by decide)), fun h => (hs0 (on_ne h (by decide))).to hb, fun h => (hs1 (on_ne h (by decide))).to hb, fun h => (hs2 (on_ne h (by decide))).to hb, fun h => on_mono (ho0 (on_ne h (by decide))), fun h => on_mono (ho1 (on_ne h (by decide))), fun h => on_mono (ho2 (on_ne h (by decide))), by simp [hz]⟩
      · have hp := hpre _ rfl
        simp [Region.binds] at hp
        clear hpre
        clear hp
        refine wpOp_go rfl rfl (fun K hK => ?_)
        go_simp
        refine hK _ _ ?_
        clear hK K
        exact ⟨_, _, _, _, _, _, _, _, _, rfl, hB, b0_0, b0_1, b0_2, b1_0, b1_1, b1_2, b2_0, b2_1, b2_2, lB, fun h => hd0 (on_ne h (by decide)), fun h => hd1 (on_ne h (by decide)), fun _ => rfl, fun h => hq0 (on_ne h (by decide)), fun h => hq1 (on_ne h (by decide)), fun h => hq2 (on_ne h (by decide)), fun h => hp0 (on_ne h (by decide)), fun h => hp1 (on_ne h (by decide)), fun h => hp2 (on_ne h (by decide)), fun h h2 => hn01 (on_ne h (by decide)) (on_ne h2 (by decide)), fun h h2 => hn02 (on_ne h (by decide)) (on_ne h2 (by decide)), fun h h2 => hn12 (on_ne h (by decide)) (on_ne h2 (by decide)), fun h => hs0 (on_ne h (by decide)), fun h => hs1 (on_ne h (by decide)), fun h => hs2 (on_ne h (by decide)), fun h => on_mono (ho0 (on_ne h (by decide))), fun h => on_mono (ho1 (on_ne h (by decide))), fun h => on_mono (ho2 (on_ne h (by decide))), by simp [hz]⟩
      · have hp := hpre _ rfl
        simp [Region.binds] at hp
        clear hpre
        have e0 : d2 = .agg #[.int .i64 c1, .int .i64 c2, .int .i64 c3] := hd2 (by first | exact hp | exact hp.1 | exact hp.2)
        subst e0
        clear hp
        refine wpOp_go rfl rfl (fun K hK => ?_)
        go_wp2_with (first | (go_at_call 16; refine (HO2 _).mono ?_; rintro e w1 ⟨A1, A2, A3, rfl, h1, hb⟩))
        try refine hK _ _ ?_
        exact ⟨_, _, _, _, _, _, _, _, _, rfl, hB.trans (hb.mono hB.size), keepc hb b0_0 (by omega), keepc hb b0_1 (by omega), keepc hb b0_2 (by omega), keepc hb b1_0 (by omega), keepc hb b1_1 (by omega), keepc hb b1_2 (by omega), keepc hb b2_0 (by omega), keepc hb b2_1 (by omega), keepc hb b2_2 (by omega), Nat.le_trans lB hb.size, fun h => hd0 (on_ne h (by decide)), fun h => hd1 (on_ne h (by decide)), fun h => rfl, fun h => (hq0 (on_ne h (by decide))).to hb, fun h => (hq1 (on_ne h (by decide))).to hb, fun _ => ⟨A1, A2, A3, rfl, h1⟩, fun h => (hp0 (on_ne h (by decide))).to hb, fun h => (hp1 (on_ne h (by decide))).to hb, fun h => (hp2 (on_ne h (by decide))).to hb, fun h h2 => hn01 (on_ne h (by decide)) (on_ne h2 (by decide)), fun h h2 => hn02 (on_ne h (by decide)) (on_ne h2 (by decide)), fun h h2 => hn12 (on_ne h (by decide)) (on_ne h2 (by decide)), fun h => (hs0 (on_ne h (by decide))).to hb, fun h => (hs1 (on_ne h (by decide))).to hb, fun h => (hs2 (on_ne h (by decide))).to hb, fun h => on_mono (ho0 (on_ne h (by decide))), fun h => on_mono (ho1 (on_ne h (by decide))), fun h => on_mono (ho2 (on_ne h (by decide))), by simp [hz]⟩
      · have hp := hpre _ rfl
        simp [Region.binds] at hp
        clear hpre
        clear hp
        refine wpOp_go rfl rfl (fun K hK => ?_)
        go_simp
        refine hK _ _ ?_
        clear hK K
        have hb : Below W'.heap.size W' (W'.alloc (.cells #[.bool false, .slice none 0 0, .bool false, .slice none 0 0, .slice none 0 0] 27)) := (Below.refl _ _).alloc (Nat.le_refl _) _
        exact ⟨_, _, _, _, _, _, _, _, _, rfl, hB.trans (hb.mono hB.size), keepc hb b0_0 (by omega), keepc hb b0_1 (by omega), keepc hb b0_2 (by omega), keepc hb b1_0 (by omega), keepc hb b1_1 (by omega), keepc hb b1_2 (by omega), keepc hb b2_0 (by omega), keepc hb b2_1 (by omega), keepc hb b2_2 (by omega), Nat.le_trans lB hb.size, fun h => hd0 (on_ne h (by decide)), fun h => hd1 (on_ne h (by decide)), fun h => hd2 (on_ne h (by decide)), fun h => (hq0 (on_ne h (by decide))).to hb, fun h => (hq1 (on_ne h (by decide))).to hb, fun h => (hq2 (on_ne h (by decide))).to hb, fun _ => SlotVar.new lB, fun h => (hp1 (on_ne h (by decide))).to hb, fun h => (hp2 (on_ne h (by decide))).to hb, fun h h2 => Ne.symm (hp1 (on_ne h2 (by decide))).ne, fun h h2 => Ne.symm (hp2 (on_ne h2 (by decide))).ne, fun h h2 => hn12 (on_ne h (by decide)) (on_ne h2 (by decide)), fun h => absurd (ho0 (on_ne h (by decide))) (off hoff), fun h => (hs1 (on_ne h (by decide))).to hb, fun h => (hs2 (on_ne h (by decide))).to hb, fun h => absurd (ho0 (on_ne h (by decide))) (off hoff), fun h => on_mono (ho1 (on_ne h (by decide))), fun h => on_mono (ho2 (on_ne h (by decide))), by simp [hz]⟩
      · have hp := hpre _ rfl
        simp [Region.binds] at hp
        clear hpre
        clear hp
        refine wpOp_go rfl rfl (fun K hK => ?_)
        go_simp
        refine hK _ _ ?_
        clear hK K
        have hb : Below W'.heap.size W' (W'.alloc (.cells #[.bool false, .slice none 0 0, .bool false, .slice none 0 0, .slice none 0 0] 27)) := (Below.refl _ _).alloc (Nat.le_refl _) _
        exact ⟨_, _, _, _, _, _, _, _, _, rfl, hB.trans (hb.mono hB.size), keepc hb b0_0 (by omega), keepc hb b0_1 (by omega), keepc hb b0_2 (by omega), keepc hb b1_0 (by omega), keepc hb b1_1 (by omega), keepc hb b1_2 (by omega), keepc hb b2_0 (by omega), keepc hb b2_1 (by omega), keepc hb b2_2 (by omega), Nat.le_trans lB hb.size, fun h => hd0 (on_ne h (by decide)), fun h => hd1 (on_ne h (by decide)), fun h => hd2 (on_ne h (by decide)), fun h => (hq0 (on_ne h (by decide))).to hb, fun h => (hq1 (on_ne h (by decide))).to hb, fun h => (hq2 (on_ne h (by decide))).to hb, fun h => (hp0 (on_ne h (by decide))).to hb, fun _ => SlotVar.new lB, fun h => (hp2 (on_ne h (by decide))).to hb, fun h h2 => (hp0 (on_ne h (by decide))).ne, fun h h2 => hn02 (on_ne h (by decide)) (on_ne h2 (by decide)), fun h h2 => Ne.symm (hp2 (on_ne h2 (by decide))).ne, fun h => (hs0 (on_ne h (by decide))).to hb, fun h => absurd (ho1 (on_ne h (by decide))) (off hoff), fun h => (hs2 (on_ne h (by decide))).to hb, fun h => on_mono (ho0 (on_ne h (by decide))), fun h => absurd (ho1 (on_ne h (by decide))) (off hoff), fun h => on_mono (ho2 (on_ne h (by decide))), by simp [hz]⟩
      · have hp := hpre _ rfl
        simp [Region.binds] at hp
        clear hpre
        clear hp
        refine wpOp_go rfl rfl (fun K hK => ?_)
        go_simp
        refine hK _ _ ?_
        clear hK K
        have hb : Below W'.heap.size W' (W'.alloc (.cells #[.bool false, .slice none 0 0, .bool false, .slice none 0 0, .slice none 0 0] 27)) := (Below.refl _ _).alloc (Nat.le_refl _) _
        exact ⟨_, _, _, _, _, _, _, _, _, rfl, hB.trans (hb.mono hB.size), keepc hb b0_0 (by omega), keepc hb b0_1 (by omega), keepc hb b0_2 (by omega), keepc hb b1_0 (by omega), keepc hb b1_1 (by omega), keepc hb b1_2 (by omega), keepc hb b2_0 (by omega), keepc hb b2_1 (by omega), keepc hb b2_2 (by omega), Nat.le_trans lB hb.size, fun h => hd0 (on_ne h (by decide)), fun h => hd1 (on_ne h (by decide)), fun h => hd2 (on_ne h (by decide)), fun h => (hq0 (on_ne h (by decide))).to hb, fun h => (hq1 (on_ne h (by decide))).to hb, fun h => (hq2 (on_ne h (by decide))).to hb, fun h => (hp0 (on_ne h (by decide))).to hb, fun h => (hp1 (on_ne h (by decide))).to hb, fun _ => SlotVar.new lB, fun h h2 => hn01 (on_ne h (by decide)) (on_ne h2 (by decide)), fun h h2 => (hp0 (on_ne h (by decide))).ne, fun h h2 => (hp1 (on_ne h (by decide))).ne, fun h => (hs0 (on_ne h (by decide))).to hb, fun h => (hs1 (on_ne h (by decide))).to hb, fun h => absurd (ho2 (on_ne h (by decide))) (off hoff), fun h => on_mono (ho0 (on_ne h (by decide))), fun h => on_mono (ho1 (on_ne h (by decide))), fun h => absurd (ho2 (on_ne h (by decide))) (off hoff), by simp [hz]⟩
      · have hp := hpre _ rfl
        simp [Region.binds] at hp
        clear hpre
        have hv := hp0 (by simp [hp])
        obtain ⟨A1, A2, A3, e1, n1⟩ := hq0 (by simp [hp])
        have hv2 := hv
        obtain ⟨g, e2, g1, g2, ⟨c, v1, v2, v3, v4, c0, c1, c2, c3, c4⟩, f0, f1, f2, f3, f4⟩ := hv2
        subst e1; subst e2
        refine wpOp_go rfl rfl (fun K hK => ?_)
        go_simp
        refine hK _ _ ?_
        clear hK K
        obtain ⟨X, hX⟩ : ∃ X : World, X = set5 W' g x A1 A2 A3 := ⟨_, rfl⟩
        have hw : set5 W' g x A1 A2 A3 = X := hX.symm
        unfold set5 at hw
        rw [hw]
        clear hw
        subst hX
        exact ⟨_, _, _, _, _, _, _, _, _, rfl, set5_below hB (by omega), set5_cell b0_0 (by omega), set5_cell b0_1 (by omega), set5_cell b0_2 (by omega), set5_cell b1_0 (by omega), set5_cell b1_1 (by omega), set5_cell b1_2 (by omega), set5_cell b2_0 (by omega), set5_cell b2_1 (by omega), set5_cell b2_2 (by omega), by rw [set5_size]; exact lB, fun h => by first | exact hd0 (on_ne h (by decide)) | rfl, fun h => by first | exact hd1 (on_ne h (by decide)) | rfl, fun h => by first | exact hd2 (on_ne h (by decide)) | rfl, fun h => SlotNum.set5 (hq0 (on_ne h (by decide))) c0, fun h => SlotNum.set5 (hq1 (on_ne h (by decide))) c0, fun h => SlotNum.set5 (hq2 (on_ne h (by decide))) c0, fun h => SlotVar.self5 hv, fun h => SlotVar.set5 (hp1 (on_ne h (by decide))) (Ne.symm (hn01 (by simp [hp]) (by simp [hp]))), fun h => SlotVar.set5 (hp2 (on_ne h (by decide))) (Ne.symm (hn02 (by simp [hp]) (by simp [hp]))), fun h h2 => hn01 (on_ne h (by decide)) (on_ne h2 (by decide)), fun h h2 => hn02 (on_ne h (by decide)) (on_ne h2 (by decide)), fun h h2 => hn12 (on_ne h (by decide)) (on_ne h2 (by decide)), fun h => SlotHas.mk5 hv n1, fun h => SlotHas.set5 (hs1 (on_ne h (by decide))) (Ne.symm (hn01 (by simp [hp]) (by simp [hp]))) c0, fun h => SlotHas.set5 (hs2 (on_ne h (by decide))) (Ne.symm (hn02 (by simp [hp]) (by simp [hp]))) c0, fun _ => on_mono (by simp [hp]), fun h => on_mono (ho1 (on_ne h (by decide))), fun h => on_mono (ho2 (on_ne h (by decide))), by simp [hz]⟩
      · have hp := hpre _ rfl
        simp [Region.binds] at hp
        clear hpre
        have hv := hp1 (by simp [hp])
        obtain ⟨A1, A2, A3, e1, n1⟩ := hq1 (by simp [hp])
        have hv2 := hv
        obtain ⟨g, e2, g1, g2, ⟨c, v1, v2, v3, v4, c0, c1, c2, c3, c4⟩, f0, f1, f2, f3, f4⟩ := hv2
        subst e1; subst e2
        refine wpOp_go rfl rfl (fun K hK => ?_)
        go_simp
        refine hK _ _ ?_
        clear hK K
        obtain ⟨X, hX⟩ : ∃ X : World, X = set5 W' g y A1 A2 A3 := ⟨_, rfl⟩
        have hw : set5 W' g y A1 A2 A3 = X := hX.symm
        unfold set5 at hw
        rw [hw]
        clear hw
        subst hX
        exact ⟨_, _, _, _, _, _, _, _, _, rfl, set5_below hB (by omega), set5_cell b0_0 (by omega), set5_cell b0_1 (by omega), set5_cell b0_2 (by omega), set5_cell b1_0 (by omega), set5_cell b1_1 (by omega), set5_cell b1_2 (by omega), set5_cell b2_0 (by omega), set5_cell b2_1 (by omega), set5_cell b2_2 (by omega), by rw [set5_size]; exact lB, fun h => by first | exact hd0 (on_ne h (by decide)) | rfl, fun h => by first | exact hd1 (on_ne h (by decide)) | rfl, fun h => by first | exact hd2 (on_ne h (by decide)) | rfl, fun h => SlotNum.set5 (hq0 (on_ne h (by decide))) c0, fun h => SlotNum.set5 (hq1 (on_ne h (by decide))) c0, fun h => SlotNum.set5 (hq2 (on_ne h (by decide))) c0, fun h => SlotVar.set5 (hp0 (on_ne h (by decide))) (hn01 (by simp [hp]) (by simp [hp])), fun h => SlotVar.self5 hv, fun h => SlotVar.set5 (hp2 (on_ne h (by decide))) (Ne.symm (hn12 (by simp [hp]) (by simp [hp]))), fun h h2 => hn01 (on_ne h (by decide)) (on_ne h2 (by decide)), fun h h2 => hn02 (on_ne h (by decide)) (on_ne h2 (by decide)), fun h h2 => hn12 (on_ne h (by decide)) (on_ne h2 (by decide)), fun h => SlotHas.set5 (hs0 (on_ne h (by decide))) (hn01 (by simp [hp]) (by simp [hp])) c0, fun h => SlotHas.mk5 hv n1, fun h => SlotHas.set5 (hs2 (on_ne h (by decide))) (Ne.symm (hn12 (by simp [hp]) (by simp [hp]))) c0, fun h => on_mono (ho0 (on_ne h (by decide))), fun _ => on_mono (by simp [hp]), fun h => on_mono (ho2 (on_ne h (by decide))), by simp [hz]⟩
      · have hp := hpre _ rfl
        simp [Region.binds] at hp
        clear hpre
        have hv := hp2 (by simp [hp])
        obtain ⟨A1, A2, A3, e1, n1⟩ := hq2 (by simp [hp])
        have hv2 := hv
        obtain ⟨g, e2, g1, g2, ⟨c, v1, v2, v3, v4, c0, c1, c2, c3, c4⟩, f0, f1, f2, f3, f4⟩ := hv2
        subst e1; subst e2
        refine wpOp_go rfl rfl (fun K hK => ?_)
        go_simp
        refine hK _ _ ?_
        clear hK K
        obtain ⟨X, hX⟩ : ∃ X : World, X = set5 W' g z A1 A2 A3 := ⟨_, rfl⟩
        have hw : set5 W' g z A1 A2 A3 = X := hX.symm
        unfold set5 at hw
        rw [hw]
        clear hw
        subst hX
        exact ⟨_, _, _, _, _, _, _, _, _, rfl, set5_below hB (by omega), set5_cell b0_0 (by omega), set5_cell b0_1 (by omega), set5_cell b0_2 (by omega), set5_cell b1_0 (by omega), set5_cell b1_1 (by omega), set5_cell b1_2 (by omega), set5_cell b2_0 (by omega), set5_cell b2_1 (by omega), set5_cell b2_2 (by omega), by rw [set5_size]; exact lB, fun h => by first | exact hd0 (on_ne h (by decide)) | rfl, fun h => by first | exact hd1 (on_ne h (by decide)) | rfl, fun h => by first | exact hd2 (on_ne h (by decide)) | rfl, fun h => SlotNum.set5 (hq0 (on_ne h (by decide))) c0, fun h => SlotNum.set5 (hq1 (on_ne h (by decide))) c0, fun h => SlotNum.set5 (hq2 (on_ne h (by decide))) c0, fun h => SlotVar.set5 (hp0 (on_ne h (by decide))) (hn02 (by simp [hp]) (by simp [hp])), fun h => SlotVar.set5 (hp1 (on_ne h (by decide))) (hn12 (by simp [hp]) (by simp [hp])), fun h => SlotVar.self5 hv, fun h h2 => hn01 (on_ne h (by decide)) (on_ne h2 (by decide)), fun h h2 => hn02 (on_ne h (by decide)) (on_ne h2 (by decide)), fun h h2 => hn12 (on_ne h (by decide)) (on_ne h2 (by decide)), fun h => SlotHas.set5 (hs0 (on_ne h (by decide))) (hn02 (by simp [hp]) (by simp [hp])) c0, fun h => SlotHas.set5 (hs1 (on_ne h (by decide))) (hn12 (by simp [hp]) (by simp [hp])) c0, fun h => SlotHas.mk5 hv n1, fun h => on_mono (ho0 (on_ne h (by decide))), fun h => on_mono (ho1 (on_ne h (by decide))), fun _ => on_mono (by simp [hp]), by simp [hz]⟩
    · intro l a' W' hr hI
      obtain ⟨p0, p1, p2, d0, d1, d2, q0, q1, q2, rfl, hB, b0_0, b0_1, b0_2, b1_0, b1_1, b1_2, b2_0, b2_1, b2_2, lB, hd0, hd1, hd2, hq0, hq1, hq2, hp0, hp1, hp2, hn01, hn02, hn12, hs0, hs1, hs2, ho0, ho1, ho2, hz⟩ := hI
      have a0 := not_ready (i := 0) hr hz rfl (by simp [Region.binds])
      have a1 := not_ready (i := 1) hr hz rfl (by simp [Region.binds, a0])
      have a2 := not_ready (i := 2) hr hz rfl (by simp [Region.binds, a0, a1])
      have a3 := not_ready (i := 3) hr hz rfl (by simp [Region.binds, a0, a1, a2])
      have a4 := not_ready (i := 4) hr hz rfl (by simp [Region.binds, a0, a1, a2, a3])
      have a5 := not_ready (i := 5) hr hz rfl (by simp [Region.binds, a0, a1, a2, a3, a4])
      have a6 := not_ready (i := 6) hr hz rfl (by simp [Region.binds, a0, a1, a2, a3, a4, a5])
      have a7 := not_ready (i := 7) hr hz rfl (by simp [Region.binds, a0, a1, a2, a3, a4, a5, a6])
      have a8 := not_ready (i := 8) hr hz rfl (by simp [Region.binds, a0, a1, a2, a3, a4, a5, a6, a7])
      have a9 := not_ready (i := 9) hr hz rfl (by simp [Region.binds, a0, a1, a2, a3, a4, a5, a6, a7, a8])
      have a10 := not_ready (i := 10) hr hz rfl (by simp [Region.binds, a0, a1, a2, a3, a4, a5, a6, a7, a8, a9])
      have a11 := not_ready (i := 11) hr hz rfl (by simp [Region.binds, a0, a1, a2, a3, a4, a5, a6, a7, a8, a9, a10])
      clear hr
      replace hs0 := hs0 a9
      replace hs1 := hs1 a10
      replace hs2 := hs2 a11
      clear b0_0 b0_1 b0_2 b1_0 b1_1 b1_2 b2_0 b2_1 b2_2 hd0 hd1 hd2 hq0 hq1 hq2 hp0 hp1 hp2 hn01 hn02 hn12 ho0 ho1 ho2 hz
      go_wp2_with fail
      go_meet
      exact ⟨hs0, hs1, hs2, hB⟩
    · exact ⟨_, _, _, _, _, _, _, _, _, rfl, ⟨HW.out.os, HW.out.tape, HW.out.output, HW.out.size, HW.out.block⟩, s0_0, s0_1, s0_2, s1_0, s1_1, s1_2, s2_0, s2_1, s2_2, by subst hB0; exact l2, fun h => absurd h (by decide), fun h => absurd h (by decide), fun h => absurd h (by decide), fun h => absurd h (by decide), fun h => absurd h (by decide), fun h => absurd h (by decide), fun h => absurd h (by decide), fun h => absurd h (by decide), fun h => absurd h (by decide), fun h _ => absurd h (by decide), fun h _ => absurd h (by decide), fun h _ => absurd h (by decide), fun h => absurd h (by decide), fun h => absurd h (by decide), fun h => absurd h (by decide), fun h => absurd h (by decide), fun h => absurd h (by decide), fun h => absurd h (by decide), by simp⟩
  case rest =>
    obtain ⟨hs0, hs1, hs2, hB⟩ := hcut
    obtain ⟨g0, X01, X02, X03, e0, V0⟩ := hs0.at
    subst e0
    obtain ⟨g1, X11, X12, X13, e1, V1⟩ := hs1.at
    subst e1
    obtain ⟨g2, X21, X22, X23, e2, V2⟩ := hs2.at
    subst e2
    clear hs0 hs1 hs2 hB0 HO0 HO1 HO2 HW s0_0 s0_1 s0_2 s1_0 s1_1 s1_2 s2_0 s2_1 s2_2 l0 l1 l2
    replace HW := Lib.hid hB
    clear hB
    go_wp2_with fail
    go_region_held3 (fun w' => w'.cell? ⟨g0, 0, none⟩ = some (.bool (sn (na x))) ∧ w'.cell? ⟨g0, 1, none⟩ = some (.slice X01 (ln (ab (na x))) (ln (ab (na x)))) ∧ w'.cell? ⟨g0, 2, none⟩ = some (.bool (sn (nb x))) ∧ w'.cell? ⟨g0, 3, none⟩ = some (.slice X02 (ln (ab (nb x))) (ln (ab (nb x)))) ∧ w'.cell? ⟨g0, 4, none⟩ = some (.slice X03 (ln (un x)) (ln (un x))) ∧ w'.cell? ⟨g1, 0, none⟩ = some (.bool (sn (na y))) ∧ w'.cell? ⟨g1, 1, none⟩ = some (.slice X11 (ln (ab (na y))) (ln (ab (na y)))) ∧ w'.cell? ⟨g1, 2, none⟩ = some (.bool (sn (nb y))) ∧ w'.cell? ⟨g1, 3, none⟩ = some (.slice X12 (ln (ab (nb y))) (ln (ab (nb y)))) ∧ w'.cell? ⟨g1, 4, none⟩ = some (.slice X13 (ln (un y)) (ln (un y))) ∧ w'.cell? ⟨g2, 0, none⟩ = some (.bool (sn (na z))) ∧ w'.cell? ⟨g2, 1, none⟩ = some (.slice X21 (ln (ab (na z))) (ln (ab (na z)))) ∧ w'.cell? ⟨g2, 2, none⟩ = some (.bool (sn (nb z))) ∧ w'.cell? ⟨g2, 3, none⟩ = some (.slice X22 (ln (ab (nb z))) (ln (ab (nb z)))) ∧ w'.cell? ⟨g2, 4, none⟩ = some (.slice X23 (ln (un z)) (ln (un z)))) (first | with_reducible exact ⟨V0.2.1.1, V0.2.1.2.1, V0.2.1.2.2.1, V0.2.1.2.2.2.1, V0.2.1.2.2.2.2, V1.2.1.1, V1.2.1.2.1, V1.2.1.2.2.1, V1.2.1.2.2.2.1, V1.2.1.2.2.2.2, V2.2.1.1, V2.2.1.2.1, V2.2.1.2.2.1, V2.2.1.2.2.2.1, V2.2.1.2.2.2.2⟩ | exact ⟨V0.2.1.1, V0.2.1.2.1, V0.2.1.2.2.1, V0.2.1.2.2.2.1, V0.2.1.2.2.2.2, V1.2.1.1, V1.2.1.2.1, V1.2.1.2.2.1, V1.2.1.2.2.2.1, V1.2.1.2.2.2.2, V2.2.1.1, V2.2.1.2.1, V2.2.1.2.2.1, V2.2.1.2.2.2.1, V2.2.1.2.2.2.2⟩) (first
      | (have _ := mk115; go_at_call 18; refine (same_to ((x.mul y).mul z) (x.mul (y.mul z)) P1131 P1132 P1133 P1151 P1152 P1153 _ (by exact h113) (by exact h115) ((sz_mul ((sz_mul (zx.mono (by decide : 2 ≤ 2)) (zy.mono (by decide : 2 ≤ 2))).mono (by decide : 5 ≤ 5)) (zz.mono (by decide : 2 ≤ 5))).mono (by decide)) ((sz_mul (zx.mono (by decide : 2 ≤ 5)) ((sz_mul (zy.mono (by decide : 2 ≤ 2)) (zz.mono (by decide : 2 ≤ 2))).mono (by decide : 5 ≤ 5))).mono (by decide)) (la4 x y z)).mono ?_; rintro e w116 ⟨rfl, hb116⟩; replace V0 := VarAt.to V0 hb116; replace V1 := VarAt.to V1 hb116; replace V2 := VarAt.to V2 hb116; replace h113 := h113.to hb116; replace h115 := h115.to hb116; replace HW := Lib.hid (hstep HW hb116); clear hb116; clear h113; clear h115; have mk116 : True := trivial; clear mk115)
      | (have _ := mk114; go_at_call 19; refine (mul_num x (y.mul z) X01 X02 X03 P1141 P1142 P1143 _ (by exact V0.2.2) (by exact h114) (zx.mono (by decide)) ((sz_mul (zy.mono (by decide : 2 ≤ 2)) (zz.mono (by decide : 2 ≤ 2))).mono (by decide))).mono ?_; rintro e w115 ⟨P1151, P1152, P1153, rfl, h115, hb115⟩; replace V0 := VarAt.to V0 hb115; replace V1 := VarAt.to V1 hb115; replace V2 := VarAt.to V2 hb115; replace h113 := h113.to hb115; replace h114 := h114.to hb115; replace HW := Lib.hid (hstep HW hb115); clear hb115; clear h114; have mk115 : True := trivial; clear mk114)
      | (have _ := mk113; go_at_call 19; refine (mul_num y z X11 X12 X13 X21 X22 X23 _ (by exact V1.2.2) (by exact V2.2.2) (zy.mono (by decide)) (zz.mono (by decide))).mono ?_; rintro e w114 ⟨P1141, P1142, P1143, rfl, h114, hb114⟩; replace V0 := VarAt.to V0 hb114; replace V1 := VarAt.to V1 hb114; replace V2 := VarAt.to V2 hb114; replace h113 := h113.to hb114; replace HW := Lib.hid (hstep HW hb114); clear hb114; have mk114 : True := trivial; clear mk113)
      | (have _ := mk112; go_at_call 19; refine (mul_num (x.mul y) z P1121 P1122 P1123 X21 X22 X23 _ (by exact h112) (by exact V2.2.2) ((sz_mul (zx.mono (by decide : 2 ≤ 2)) (zy.mono (by decide : 2 ≤ 2))).mono (by decide)) (zz.mono (by decide))).mono ?_; rintro e w113 ⟨P1131, P1132, P1133, rfl, h113, hb113⟩; replace V0 := VarAt.to V0 hb113; replace V1 := VarAt.to V1 hb113; replace V2 := VarAt.to V2 hb113; replace h112 := h112.to hb113; replace HW := Lib.hid (hstep HW hb113); clear hb113; clear h112; have mk113 : True := trivial; clear mk112)
      | (have _ := mk111; go_at_call 19; refine (mul_num x y X01 X02 X03 X11 X12 X13 _ (by exact V0.2.2) (by exact V1.2.2) (zx.mono (by decide)) (zy.mono (by decide))).mono ?_; rintro e w112 ⟨P1121, P1122, P1123, rfl, h112, hb112⟩; replace V0 := VarAt.to V0 hb112; replace V1 := VarAt.to V1 hb112; replace V2 := VarAt.to V2 hb112; replace HW := Lib.hid (hstep HW hb112); clear hb112; have mk112 : True := trivial; clear mk111)
      | (have _ := mk110; go_at_call 18; refine (same_to ((x.add y).add z) (x.add (y.add z)) P1081 P1082 P1083 P1101 P1102 P1103 _ (by exact h108) (by exact h110) ((sz_add ((sz_add (zx.mono (by decide : 2 ≤ 2)) (zy.mono (by decide : 2 ≤ 2))).mono (by decide : 5 ≤ 5)) (zz.mono (by decide : 2 ≤ 5))).mono (by decide)) ((sz_add (zx.mono (by decide : 2 ≤ 5)) ((sz_add (zy.mono (by decide : 2 ≤ 2)) (zz.mono (by decide : 2 ≤ 2))).mono (by decide : 5 ≤ 5))).mono (by decide)) (la3 x y z)).mono ?_; rintro e w111 ⟨rfl, hb111⟩; replace V0 := VarAt.to V0 hb111; replace V1 := VarAt.to V1 hb111; replace V2 := VarAt.to V2 hb111; replace h108 := h108.to hb111; replace h110 := h110.to hb111; replace HW := Lib.hid (hstep HW hb111); clear hb111; clear h108; clear h110; have mk111 : True := trivial; clear mk110)
      | (have _ := mk109; go_at_call 17; refine (add_num x (y.add z) X01 X02 X03 P1091 P1092 P1093 _ (by exact V0.2.2) (by exact h109) (zx.mono (by decide)) ((sz_add (zy.mono (by decide : 2 ≤ 2)) (zz.mono (by decide : 2 ≤ 2))).mono (by decide))).mono ?_; rintro e w110 ⟨P1101, P1102, P1103, rfl, h110, hb110⟩; replace V0 := VarAt.to V0 hb110; replace V1 := VarAt.to V1 hb110; replace V2 := VarAt.to V2 hb110; replace h108 := h108.to hb110; replace h109 := h109.to hb110; replace HW := Lib.hid (hstep HW hb110); clear hb110; clear h109; have mk110 : True := trivial; clear mk109)
      | (have _ := mk108; go_at_call 17; refine (add_num y z X11 X12 X13 X21 X22 X23 _ (by exact V1.2.2) (by exact V2.2.2) (zy.mono (by decide)) (zz.mono (by decide))).mono ?_; rintro e w109 ⟨P1091, P1092, P1093, rfl, h109, hb109⟩; replace V0 := VarAt.to V0 hb109; replace V1 := VarAt.to V1 hb109; replace V2 := VarAt.to V2 hb109; replace h108 := h108.to hb109; replace HW := Lib.hid (hstep HW hb109); clear hb109; have mk109 : True := trivial; clear mk108)
      | (have _ := mk107; go_at_call 17; refine (add_num (x.add y) z P1071 P1072 P1073 X21 X22 X23 _ (by exact h107) (by exact V2.2.2) ((sz_add (zx.mono (by decide : 2 ≤ 2)) (zy.mono (by decide : 2 ≤ 2))).mono (by decide)) (zz.mono (by decide))).mono ?_; rintro e w108 ⟨P1081, P1082, P1083, rfl, h108, hb108⟩; replace V0 := VarAt.to V0 hb108; replace V1 := VarAt.to V1 hb108; replace V2 := VarAt.to V2 hb108; replace h107 := h107.to hb108; replace HW := Lib.hid (hstep HW hb108); clear hb108; clear h107; have mk108 : True := trivial; clear mk107)
      | (have _ := mk106; go_at_call 17; refine (add_num x y X01 X02 X03 X11 X12 X13 _ (by exact V0.2.2) (by exact V1.2.2) (zx.mono (by decide)) (zy.mono (by decide))).mono ?_; rintro e w107 ⟨P1071, P1072, P1073, rfl, h107, hb107⟩; replace V0 := VarAt.to V0 hb107; replace V1 := VarAt.to V1 hb107; replace V2 := VarAt.to V2 hb107; replace HW := Lib.hid (hstep HW hb107); clear hb107; have mk107 : True := trivial; clear mk106)
      | (have _ := mk105; go_at_call 18; refine (same_to (x.mul y) (y.mul x) P1041 P1042 P1043 P1051 P1052 P1053 _ (by exact h104) (by exact h105) ((sz_mul (zx.mono (by decide : 2 ≤ 2)) (zy.mono (by decide : 2 ≤ 2))).mono (by decide)) ((sz_mul (zy.mono (by decide : 2 ≤ 2)) (zx.mono (by decide : 2 ≤ 2))).mono (by decide)) (la2 x y)).mono ?_; rintro e w106 ⟨rfl, hb106⟩; replace V0 := VarAt.to V0 hb106; replace V1 := VarAt.to V1 hb106; replace V2 := VarAt.to V2 hb106; replace h104 := h104.to hb106; replace h105 := h105.to hb106; replace HW := Lib.hid (hstep HW hb106); clear hb106; clear h104; clear h105; have mk106 : True := trivial; clear mk105)
      | (have _ := mk104; go_at_call 19; refine (mul_num y x X11 X12 X13 X01 X02 X03 _ (by exact V1.2.2) (by exact V0.2.2) (zy.mono (by decide)) (zx.mono (by decide))).mono ?_; rintro e w105 ⟨P1051, P1052, P1053, rfl, h105, hb105⟩; replace V0 := VarAt.to V0 hb105; replace V1 := VarAt.to V1 hb105; replace V2 := VarAt.to V2 hb105; replace h104 := h104.to hb105; replace HW := Lib.hid (hstep HW hb105); clear hb105; have mk105 : True := trivial; clear mk104)
      | (have _ := mk103; go_at_call 19; refine (mul_num x y X01 X02 X03 X11 X12 X13 _ (by exact V0.2.2) (by exact V1.2.2) (zx.mono (by decide)) (zy.mono (by decide))).mono ?_; rintro e w104 ⟨P1041, P1042, P1043, rfl, h104, hb104⟩; replace V0 := VarAt.to V0 hb104; replace V1 := VarAt.to V1 hb104; replace V2 := VarAt.to V2 hb104; replace HW := Lib.hid (hstep HW hb104); clear hb104; have mk104 : True := trivial; clear mk103)
      | (have _ := mk102; go_at_call 18; refine (same_to (x.add y) (y.add x) P1011 P1012 P1013 P1021 P1022 P1023 _ (by exact h101) (by exact h102) ((sz_add (zx.mono (by decide : 2 ≤ 2)) (zy.mono (by decide : 2 ≤ 2))).mono (by decide)) ((sz_add (zy.mono (by decide : 2 ≤ 2)) (zx.mono (by decide : 2 ≤ 2))).mono (by decide)) (la1 x y)).mono ?_; rintro e w103 ⟨rfl, hb103⟩; replace V0 := VarAt.to V0 hb103; replace V1 := VarAt.to V1 hb103; replace V2 := VarAt.to V2 hb103; replace h101 := h101.to hb103; replace h102 := h102.to hb103; replace HW := Lib.hid (hstep HW hb103); clear hb103; clear h101; clear h102; have mk103 : True := trivial; clear mk102)
      | (have _ := mk101; go_at_call 17; refine (add_num y x X11 X12 X13 X01 X02 X03 _ (by exact V1.2.2) (by exact V0.2.2) (zy.mono (by decide)) (zx.mono (by decide))).mono ?_; rintro e w102 ⟨P1021, P1022, P1023, rfl, h102, hb102⟩; replace V0 := VarAt.to V0 hb102; replace V1 := VarAt.to V1 hb102; replace V2 := VarAt.to V2 hb102; replace h101 := h101.to hb102; replace HW := Lib.hid (hstep HW hb102); clear hb102; have mk102 : True := trivial; clear mk101)
      | (go_at_call 17; refine (add_num x y X01 X02 X03 X11 X12 X13 _ (by exact V0.2.2) (by exact V1.2.2) (zx.mono (by decide)) (zy.mono (by decide))).mono ?_; rintro e w101 ⟨P1011, P1012, P1013, rfl, h101, hb101⟩; have hb101 := undrew hb101; replace V0 := VarAt.to V0 hb101; replace V1 := VarAt.to V1 hb101; replace V2 := VarAt.to V2 hb101; replace HW := Lib.hid (hstep HW hb101); clear hb101; have mk101 : True := trivial))
    go_wp2_with fail
    go_region_held3 (fun w' => w'.cell? ⟨g0, 0, none⟩ = some (.bool (sn (na x))) ∧ w'.cell? ⟨g0, 1, none⟩ = some (.slice X01 (ln (ab (na x))) (ln (ab (na x)))) ∧ w'.cell? ⟨g0, 2, none⟩ = some (.bool (sn (nb x))) ∧ w'.cell? ⟨g0, 3, none⟩ = some (.slice X02 (ln (ab (nb x))) (ln (ab (nb x)))) ∧ w'.cell? ⟨g0, 4, none⟩ = some (.slice X03 (ln (un x)) (ln (un x))) ∧ w'.cell? ⟨g1, 0, none⟩ = some (.bool (sn (na y))) ∧ w'.cell? ⟨g1, 1, none⟩ = some (.slice X11 (ln (ab (na y))) (ln (ab (na y)))) ∧ w'.cell? ⟨g1, 2, none⟩ = some (.bool (sn (nb y))) ∧ w'.cell? ⟨g1, 3, none⟩ = some (.slice X12 (ln (ab (nb y))) (ln (ab (nb y)))) ∧ w'.cell? ⟨g1, 4, none⟩ = some (.slice X13 (ln (un y)) (ln (un y))) ∧ w'.cell? ⟨g2, 0, none⟩ = some (.bool (sn (na z))) ∧ w'.cell? ⟨g2, 1, none⟩ = some (.slice X21 (ln (ab (na z))) (ln (ab (na z)))) ∧ w'.cell? ⟨g2, 2, none⟩ = some (.bool (sn (nb z))) ∧ w'.cell? ⟨g2, 3, none⟩ = some (.slice X22 (ln (ab (nb z))) (ln (ab (nb z)))) ∧ w'.cell? ⟨g2, 4, none⟩ = some (.slice X23 (ln (un z)) (ln (un z)))) (first | with_reducible exact ⟨V0.2.1.1, V0.2.1.2.1, V0.2.1.2.2.1, V0.2.1.2.2.2.1, V0.2.1.2.2.2.2, V1.2.1.1, V1.2.1.2.1, V1.2.1.2.2.1, V1.2.1.2.2.2.1, V1.2.1.2.2.2.2, V2.2.1.1, V2.2.1.2.1, V2.2.1.2.2.1, V2.2.1.2.2.2.1, V2.2.1.2.2.2.2⟩ | exact ⟨V0.2.1.1, V0.2.1.2.1, V0.2.1.2.2.1, V0.2.1.2.2.2.1, V0.2.1.2.2.2.2, V1.2.1.1, V1.2.1.2.1, V1.2.1.2.2.1, V1.2.1.2.2.2.1, V1.2.1.2.2.2.2, V2.2.1.1, V2.2.1.2.1, V2.2.1.2.2.1, V2.2.1.2.2.2.1, V2.2.1.2.2.2.2⟩) (first
      | (have _ := mk128; go_at_call 18; refine (same_to (x.add x.neg) (Cx.ofInt (0)) P1271 P1272 P1273 P1281 P1282 P1283 _ (by exact h127) (by exact h128) ((sz_add (zx.mono (by decide : 2 ≤ 2)) ((sz_neg zx).mono (by decide : 2 ≤ 2))).mono (by decide)) ((sz_int0).mono (by decide)) (la7 x)).mono ?_; rintro e w129 ⟨rfl, hb129⟩; replace V0 := VarAt.to V0 hb129; replace V1 := VarAt.to V1 hb129; replace V2 := VarAt.to V2 hb129; replace h127 := h127.to hb129; replace h128 := h128.to hb129; replace HW := Lib.hid (hstep HW hb129); clear hb129; clear h127; clear h128; have mk129 : True := trivial; clear mk128)
      | (have _ := mk127; go_at_call 13; refine (int_any (0) _ (by omega) (by omega)).mono ?_; rintro e w128 ⟨P1281, P1282, P1283, rfl, h128, hb128⟩; replace V0 := VarAt.to V0 hb128; replace V1 := VarAt.to V1 hb128; replace V2 := VarAt.to V2 hb128; replace h127 := h127.to hb128; replace HW := Lib.hid (hstep HW hb128); clear hb128; have mk128 : True := trivial; clear mk127)
      | (have _ := mk126; go_at_call 17; refine (add_num x x.neg X01 X02 X03 P1261 P1262 P1263 _ (by exact V0.2.2) (by exact h126) (zx.mono (by decide)) ((sz_neg zx).mono (by decide))).mono ?_; rintro e w127 ⟨P1271, P1272, P1273, rfl, h127, hb127⟩; replace V0 := VarAt.to V0 hb127; replace V1 := VarAt.to V1 hb127; replace V2 := VarAt.to V2 hb127; replace h126 := h126.to hb127; replace HW := Lib.hid (hstep HW hb127); clear hb127; clear h126; have mk127 : True := trivial; clear mk126)
      | (have _ := mk125; go_at_call 21; refine (neg_any x X01 X02 X03 _ (by exact V0.2.2)).mono ?_; rintro e w126 ⟨P1261, P1262, P1263, rfl, h126, hb126⟩; replace V0 := VarAt.to V0 hb126; replace V1 := VarAt.to V1 hb126; replace V2 := VarAt.to V2 hb126; replace HW := Lib.hid (hstep HW hb126); clear hb126; have mk126 : True := trivial; clear mk125)
      | (have _ := mk124; go_at_call 18; refine (same_to ((x.sub y).add y) x P1241 P1242 P1243 X01 X02 X03 _ (by exact h124) (by exact V0.2.2) ((sz_add ((sz_sub (zx.mono (by decide : 2 ≤ 2)) (zy.mono (by decide : 2 ≤ 2))).mono (by decide : 5 ≤ 5)) (zy.mono (by decide : 2 ≤ 5))).mono (by decide)) (zx.mono (by decide)) (la6 x y)).mono ?_; rintro e w125 ⟨rfl, hb125⟩; replace V0 := VarAt.to V0 hb125; replace V1 := VarAt.to V1 hb125; replace V2 := VarAt.to V2 hb125; replace h124 := h124.to hb125; replace HW := Lib.hid (hstep HW hb125); clear hb125; clear h124; have mk125 : True := trivial; clear mk124)
      | (have _ := mk123; go_at_call 17; refine (add_num (x.sub y) y P1231 P1232 P1233 X11 X12 X13 _ (by exact h123) (by exact V1.2.2) ((sz_sub (zx.mono (by decide : 2 ≤ 2)) (zy.mono (by decide : 2 ≤ 2))).mono (by decide)) (zy.mono (by decide))).mono ?_; rintro e w124 ⟨P1241, P1242, P1243, rfl, h124, hb124⟩; replace V0 := VarAt.to V0 hb124; replace V1 := VarAt.to V1 hb124; replace V2 := VarAt.to V2 hb124; replace h123 := h123.to hb124; replace HW := Lib.hid (hstep HW hb124); clear hb124; clear h123; have mk124 : True := trivial; clear mk123)
      | (have _ := mk122; go_at_call 20; refine (sub_num x y X01 X02 X03 X11 X12 X13 _ (by exact V0.2.2) (by exact V1.2.2) (zx.mono (by decide)) (zy.mono (by decide))).mono ?_; rintro e w123 ⟨P1231, P1232, P1233, rfl, h123, hb123⟩; replace V0 := VarAt.to V0 hb123; replace V1 := VarAt.to V1 hb123; replace V2 := VarAt.to V2 hb123; replace HW := Lib.hid (hstep HW hb123); clear hb123; have mk123 : True := trivial; clear mk122)
      | (have _ := mk121; go_at_call 18; refine (same_to (x.mul (y.add z)) ((x.mul y).add (x.mul z)) P1181 P1182 P1183 P1211 P1212 P1213 _ (by exact h118) (by exact h121) ((sz_mul (zx.mono (by decide : 2 ≤ 5)) ((sz_add (zy.mono (by decide : 2 ≤ 2)) (zz.mono (by decide : 2 ≤ 2))).mono (by decide : 5 ≤ 5))).mono (by decide)) ((sz_add ((sz_mul (zx.mono (by decide : 2 ≤ 2)) (zy.mono (by decide : 2 ≤ 2))).mono (by decide : 5 ≤ 5)) ((sz_mul (zx.mono (by decide : 2 ≤ 2)) (zz.mono (by decide : 2 ≤ 2))).mono (by decide : 5 ≤ 5))).mono (by decide)) (la5 x y z)).mono ?_; rintro e w122 ⟨rfl, hb122⟩; replace V0 := VarAt.to V0 hb122; replace V1 := VarAt.to V1 hb122; replace V2 := VarAt.to V2 hb122; replace h118 := h118.to hb122; replace h121 := h121.to hb122; replace HW := Lib.hid (hstep HW hb122); clear hb122; clear h118; clear h121; have mk122 : True := trivial; clear mk121)
      | (have _ := mk120; go_at_call 17; refine (add_num (x.mul y) (x.mul z) P1191 P1192 P1193 P1201 P1202 P1203 _ (by exact h119) (by exact h120) ((sz_mul (zx.mono (by decide : 2 ≤ 2)) (zy.mono (by decide : 2 ≤ 2))).mono (by decide)) ((sz_mul (zx.mono (by decide : 2 ≤ 2)) (zz.mono (by decide : 2 ≤ 2))).mono (by decide))).mono ?_; rintro e w121 ⟨P1211, P1212, P1213, rfl, h121, hb121⟩; replace V0 := VarAt.to V0 hb121; replace V1 := VarAt.to V1 hb121; replace V2 := VarAt.to V2 hb121; replace h118 := h118.to hb121; replace h119 := h119.to hb121; replace h120 := h120.to hb121; replace HW := Lib.hid (hstep HW hb121); clear hb121; clear h119; clear h120; have mk121 : True := trivial; clear mk120)
      | (have _ := mk119; go_at_call 19; refine (mul_num x z X01 X02 X03 X21 X22 X23 _ (by exact V0.2.2) (by exact V2.2.2) (zx.mono (by decide)) (zz.mono (by decide))).mono ?_; rintro e w120 ⟨P1201, P1202, P1203, rfl, h120, hb120⟩; replace V0 := VarAt.to V0 hb120; replace V1 := VarAt.to V1 hb120; replace V2 := VarAt.to V2 hb120; replace h118 := h118.to hb120; replace h119 := h119.to hb120; replace HW := Lib.hid (hstep HW hb120); clear hb120; have mk120 : True := trivial; clear mk119)
      | (have _ := mk118; go_at_call 19; refine (mul_num x y X01 X02 X03 X11 X12 X13 _ (by exact V0.2.2) (by exact V1.2.2) (zx.mono (by decide)) (zy.mono (by decide))).mono ?_; rintro e w119 ⟨P1191, P1192, P1193, rfl, h119, hb119⟩; replace V0 := VarAt.to V0 hb119; replace V1 := VarAt.to V1 hb119; replace V2 := VarAt.to V2 hb119; replace h118 := h118.to hb119; replace HW := Lib.hid (hstep HW hb119); clear hb119; have mk119 : True := trivial; clear mk118)
      | (have _ := mk117; go_at_call 19; refine (mul_num x (y.add z) X01 X02 X03 P1171 P1172 P1173 _ (by exact V0.2.2) (by exact h117) (zx.mono (by decide)) ((sz_add (zy.mono (by decide : 2 ≤ 2)) (zz.mono (by decide : 2 ≤ 2))).mono (by decide))).mono ?_; rintro e w118 ⟨P1181, P1182, P1183, rfl, h118, hb118⟩; replace V0 := VarAt.to V0 hb118; replace V1 := VarAt.to V1 hb118; replace V2 := VarAt.to V2 hb118; replace h117 := h117.to hb118; replace HW := Lib.hid (hstep HW hb118); clear hb118; clear h117; have mk118 : True := trivial; clear mk117)
      | (go_at_call 17; refine (add_num y z X11 X12 X13 X21 X22 X23 _ (by exact V1.2.2) (by exact V2.2.2) (zy.mono (by decide)) (zz.mono (by decide))).mono ?_; rintro e w117 ⟨P1171, P1172, P1173, rfl, h117, hb117⟩; have hb117 := undrew hb117; replace V0 := VarAt.to V0 hb117; replace V1 := VarAt.to V1 hb117; replace V2 := VarAt.to V2 hb117; replace HW := Lib.hid (hstep HW hb117); clear hb117; have mk117 : True := trivial))
    go_wp2_with fail
    obtain ⟨tV0_0, tV0_1, tV0_2, tV0_3, tV0_4⟩ := V0.2.1
    obtain ⟨tV1_0, tV1_1, tV1_2, tV1_3, tV1_4⟩ := V1.2.1
    obtain ⟨tV2_0, tV2_1, tV2_2, tV2_3, tV2_4⟩ := V2.2.1
    try go_wp2_with fail
    refine (div_to x y X01 X02 X03 X11 X12 X13 _ (by exact V0.2.2) (by exact V1.2.2) (zx.mono (by decide)) (zy.mono (by decide))).mono ?_
    rintro e w200 ⟨c, q, HQ, Q1, Q2, Q3, rfl, hq, hb200⟩
    clear tV0_0 tV0_1 tV0_2 tV0_3 tV0_4 tV1_0 tV1_1 tV1_2 tV1_3 tV1_4 tV2_0 tV2_1 tV2_2 tV2_3 tV2_4
    replace V0 := VarAt.to V0 hb200
    replace V1 := VarAt.to V1 hb200
    replace V2 := VarAt.to V2 hb200
    replace HW := Lib.hid (hstep HW hb200)
    clear hb200
    obtain ⟨tV0_0, tV0_1, tV0_2, tV0_3, tV0_4⟩ := V0.2.1
    obtain ⟨tV1_0, tV1_1, tV1_2, tV1_3, tV1_4⟩ := V1.2.1
    obtain ⟨tV2_0, tV2_1, tV2_2, tV2_3, tV2_4⟩ := V2.2.1
    go_upto_region 7 with fail
    clear tV0_0 tV0_1 tV0_2 tV0_3 tV0_4 tV1_0 tV1_1 tV1_2 tV1_3 tV1_4 tV2_0 tV2_1 tV2_2 tV2_3 tV2_4
    obtain ⟨X, hX⟩ : ∃ X : World, X = w200.alloc (.cells #[.bool (sn (na q)), .slice Q1 (ln (ab (na q))) (ln (ab (na q))), .bool (sn (nb q)), .slice Q2 (ln (ab (nb q))) (ln (ab (nb q))), .slice Q3 (ln (un q)) (ln (un q))] 27) := ⟨_, rfl⟩
    rw [← hX]
    have hb201 : Below w200.heap.size w200 X := by rw [hX]; exact (Below.refl _ _).alloc (Nat.le_refl _) _
    have V3 : VarAt X w200.heap.size q Q1 Q2 Q3 := ⟨by rw [hX]; simp, ⟨by subst hX; go_simp, by subst hX; go_simp, by subst hX; go_simp, by subst hX; go_simp, by subst hX; go_simp⟩, hq.to hb201⟩
    clear hX hq
    replace V0 := VarAt.to V0 hb201
    replace V1 := VarAt.to V1 hb201
    replace V2 := VarAt.to V2 hb201
    replace HW := Lib.hid (hstep HW hb201)
    clear hb201
    generalize w200.heap.size = g3 at *
    go_cut [127] (fun v wx => v = .bool false ∧ VarAt wx g0 x X01 X02 X03 ∧ VarAt wx g1 y X11 X12 X13 ∧ VarAt wx g2 z X21 X22 X23 ∧ Below w.heap.size w wx)
    case first =>
      rcases HQ.out with ⟨hy, hc⟩ | ⟨hy, hc, hq⟩
      · subst hc
        replace hy := Lib.hid hy
        refine wp_region_held_drew (S := fun w' => w'.cell? ⟨g0, 0, none⟩ = some (.bool (sn (na x))) ∧ w'.cell? ⟨g0, 1, none⟩ = some (.slice X01 (ln (ab (na x))) (ln (ab (na x)))) ∧ w'.cell? ⟨g0, 2, none⟩ = some (.bool (sn (nb x))) ∧ w'.cell? ⟨g0, 3, none⟩ = some (.slice X02 (ln (ab (nb x))) (ln (ab (nb x)))) ∧ w'.cell? ⟨g0, 4, none⟩ = some (.slice X03 (ln (un x)) (ln (un x))) ∧ w'.cell? ⟨g1, 0, none⟩ = some (.bool (sn (na y))) ∧ w'.cell? ⟨g1, 1, none⟩ = some (.slice X11 (ln (ab (na y))) (ln (ab (na y)))) ∧ w'.cell? ⟨g1, 2, none⟩ = some (.bool (sn (nb y))) ∧ w'.cell? ⟨g1, 3, none⟩ = some (.slice X12 (ln (ab (nb y))) (ln (ab (nb y)))) ∧ w'.cell? ⟨g1, 4, none⟩ = some (.slice X13 (ln (un y)) (ln (un y))) ∧ w'.cell? ⟨g2, 0, none⟩ = some (.bool (sn (na z))) ∧ w'.cell? ⟨g2, 1, none⟩ = some (.slice X21 (ln (ab (na z))) (ln (ab (na z)))) ∧ w'.cell? ⟨g2, 2, none⟩ = some (.bool (sn (nb z))) ∧ w'.cell? ⟨g2, 3, none⟩ = some (.slice X22 (ln (ab (nb z))) (ln (ab (nb z)))) ∧ w'.cell? ⟨g2, 4, none⟩ = some (.slice X23 (ln (un z)) (ln (un z)))) (by kernel_rfl) ?_ (fun hHeld => ?_)
        · exact ⟨V0.2.1.1, V0.2.1.2.1, V0.2.1.2.2.1, V0.2.1.2.2.2.1, V0.2.1.2.2.2.2, V1.2.1.1, V1.2.1.2.1, V1.2.1.2.2.1, V1.2.1.2.2.2.1, V1.2.1.2.2.2.2, V2.2.1.1, V2.2.1.2.1, V2.2.1.2.2.1, V2.2.1.2.2.2.1, V2.2.1.2.2.2.2⟩
        refine takeF (i := 2) (d := 105) (v := ?v301) rfl rfl (by kernel_rfl) (by kernel_rfl) (by kernel_rfl) (fun _ _ _ h => h) (Or.inl ⟨by rfl, ?y301⟩) (by assumption) ?r301
        case y301 => (intro w hSw; (try dsimp only at hSw); go_simp; try with_reducible rfl)
        try simp only [Act.put, List.setIfInBounds_toArray, List.set_cons_zero, List.set_cons_succ]
        refine takeF (i := 3) (d := 106) (v := ?v302) rfl rfl (by kernel_rfl) (by kernel_rfl) (by kernel_rfl) (fun _ _ _ h => h) (Or.inl ⟨by rfl, ?y302⟩) (by assumption) ?r302
        case y302 => (intro w hSw; (try dsimp only at hSw); go_simp; try with_reducible rfl)
        try simp only [Act.put, List.setIfInBounds_toArray, List.set_cons_zero, List.set_cons_succ]
        refine takeF (i := 0) (d := 103) (v := ?v303) rfl rfl (by kernel_rfl) (by kernel_rfl) (by kernel_rfl) (fun _ _ _ h => h) (Or.inl ⟨by rfl, ?y303⟩) (by assumption) ?r303
        case y303 => (intro w hSw; (try dsimp only at hSw); go_simp; try with_reducible rfl)
        try simp only [Act.put, List.setIfInBounds_toArray, List.set_cons_zero, List.set_cons_succ]
        refine wpAnyH_ready (rs := [1]) (by kernel_rfl) (by simp) (AllReadyH.cons rfl (fun K hK => ?_) AllReadyH.nil)
        go_simp
        refine (clear_to y X11 X12 X13 _ (by exact V1.2.2) (zy.mono (by decide)) (la13 hy.out)).mono ?_
        rintro e w130 ⟨rfl, hb130⟩
        replace hb130 := undrew hb130
        replace V0 := VarAt.to V0 hb130
        replace V1 := VarAt.to V1 hb130
        replace V2 := VarAt.to V2 hb130
        replace HW := Lib.hid (hstep HW hb130)
        clear hb130
        refine hK.out _ _ ?_ (fun hHeld => ?_)
        · exact ⟨V0.2.1.1, V0.2.1.2.1, V0.2.1.2.2.1, V0.2.1.2.2.2.1, V0.2.1.2.2.2.2, V1.2.1.1, V1.2.1.2.1, V1.2.1.2.2.1, V1.2.1.2.2.2.1, V1.2.1.2.2.2.2, V2.2.1.1, V2.2.1.2.1, V2.2.1.2.2.1, V2.2.1.2.2.2.1, V2.2.1.2.2.2.2⟩
        clear hK K
        try simp only [Act.put, List.setIfInBounds_toArray, List.set_cons_zero, List.set_cons_succ]
        refine takeF (i := 4) (d := 107) (v := ?v304) rfl rfl (by kernel_rfl) (by kernel_rfl) (by kernel_rfl) (fun _ _ _ h => h) (Or.inl ⟨by rfl, ?y304⟩) (by assumption) ?r304
        case y304 => (intro w hSw; (try dsimp only at hSw); go_simp; try with_reducible rfl)
        try simp only [Act.put, List.setIfInBounds_toArray, List.set_cons_zero, List.set_cons_succ]
        refine takeF (i := 5) (d := 108) (v := ?v305) rfl rfl (by kernel_rfl) (by kernel_rfl) (by kernel_rfl) (fun _ _ _ h => h) (Or.inl ⟨by rfl, ?y305⟩) (by assumption) ?r305
        case y305 => (intro w hSw; (try dsimp only at hSw); go_simp; try with_reducible rfl)
        try simp only [Act.put, List.setIfInBounds_toArray, List.set_cons_zero, List.set_cons_succ]
        refine takeF (i := 6) (d := 109) (v := ?v306) rfl rfl (by kernel_rfl) (by kernel_rfl) (by kernel_rfl) (fun _ _ _ h => h) (Or.inl ⟨by rfl, ?y306⟩) (by assumption) ?r306
        case y306 => (intro w hSw; (try dsimp only at hSw); go_simp; try with_reducible rfl)
        try simp only [Act.put, List.setIfInBounds_toArray, List.set_cons_zero, List.set_cons_succ]
        refine takeF (i := 7) (d := 110) (v := ?v307) rfl rfl (by kernel_rfl) (by kernel_rfl) (by kernel_rfl) (fun _ _ _ h => h) (Or.inl ⟨by rfl, ?y307⟩) (by assumption) ?r307
        case y307 => (intro w hSw; (try dsimp only at hSw); go_simp; try with_reducible rfl)
        try simp only [Act.put, List.setIfInBounds_toArray, List.set_cons_zero, List.set_cons_succ]
        refine takeF (i := 8) (d := 111) (v := ?v308) rfl rfl (by kernel_rfl) (by kernel_rfl) (by kernel_rfl) (fun _ _ _ h => h) (Or.inl ⟨by rfl, ?y308⟩) (by assumption) ?r308
        case y308 => (intro w hSw; (try dsimp only at hSw); go_simp; try with_reducible rfl)
        try simp only [Act.put, List.setIfInBounds_toArray, List.set_cons_zero, List.set_cons_succ]
        refine takeF (i := 9) (d := 112) (v := ?v309) rfl rfl (by kernel_rfl) (by kernel_rfl) (by kernel_rfl) (fun _ _ _ h => h) (Or.inl ⟨by rfl, ?y309⟩) (by assumption) ?r309
        case y309 => (intro w hSw; (try dsimp only at hSw); go_simp; try with_reducible rfl)
        try simp only [Act.put, List.setIfInBounds_toArray, List.set_cons_zero, List.set_cons_succ]
        refine takeF (i := 10) (d := 113) (v := ?v310) rfl rfl (by kernel_rfl) (by kernel_rfl) (by kernel_rfl) (fun _ _ _ h => h) (Or.inl ⟨by rfl, ?y310⟩) (by assumption) ?r310
        case y310 => (intro w hSw; (try dsimp only at hSw); go_simp; try with_reducible rfl)
        try simp only [Act.put, List.setIfInBounds_toArray, List.set_cons_zero, List.set_cons_succ]
        refine takeF (i := 11) (d := 114) (v := ?v311) rfl rfl (by kernel_rfl) (by kernel_rfl) (by kernel_rfl) (fun _ _ _ h => h) (Or.inl ⟨by rfl, ?y311⟩) (by assumption) ?r311
        case y311 => (intro w hSw; (try dsimp only at hSw); go_simp; try with_reducible rfl)
        try simp only [Act.put, List.setIfInBounds_toArray, List.set_cons_zero, List.set_cons_succ]
        refine takeF (i := 12) (d := 115) (v := ?v312) rfl rfl (by kernel_rfl) (by kernel_rfl) (by kernel_rfl) (fun _ _ _ h => h) (Or.inl ⟨by rfl, ?y312⟩) (by assumption) ?r312
        case y312 => (intro w hSw; (try dsimp only at hSw); go_simp; try with_reducible rfl)
        try simp only [Act.put, List.setIfInBounds_toArray, List.set_cons_zero, List.set_cons_succ]
        refine takeF (i := 13) (d := 116) (v := ?v313) rfl rfl (by kernel_rfl) (by kernel_rfl) (by kernel_rfl) (fun _ _ _ h => h) (Or.inl ⟨by rfl, ?y313⟩) (by assumption) ?r313
        case y313 => (intro w hSw; (try dsimp only at hSw); go_simp; try with_reducible rfl)
        try simp only [Act.put, List.setIfInBounds_toArray, List.set_cons_zero, List.set_cons_succ]
        refine takeF (i := 14) (d := 117) (v := ?v314) rfl rfl (by kernel_rfl) (by kernel_rfl) (by kernel_rfl) (fun _ _ _ h => h) (Or.inl ⟨by rfl, ?y314⟩) (by assumption) ?r314
        case y314 => (intro w hSw; (try dsimp only at hSw); go_simp; try with_reducible rfl)
        try simp only [Act.put, List.setIfInBounds_toArray, List.set_cons_zero, List.set_cons_succ]
        refine takeF (i := 15) (d := 118) (v := ?v315) rfl rfl (by kernel_rfl) (by kernel_rfl) (by kernel_rfl) (fun _ _ _ h => h) (Or.inl ⟨by rfl, ?y315⟩) (by assumption) ?r315
        case y315 => (intro w hSw; (try dsimp only at hSw); go_simp; try with_reducible rfl)
        try simp only [Act.put, List.setIfInBounds_toArray, List.set_cons_zero, List.set_cons_succ]
        refine takeF (i := 16) (d := 119) (v := ?v316) rfl rfl (by kernel_rfl) (by kernel_rfl) (by kernel_rfl) (fun _ _ _ h => h) (Or.inl ⟨by rfl, ?y316⟩) (by assumption) ?r316
        case y316 => (intro w hSw; (try dsimp only at hSw); go_simp; try with_reducible rfl)
        try simp only [Act.put, List.setIfInBounds_toArray, List.set_cons_zero, List.set_cons_succ]
        refine takeF (i := 17) (d := 120) (v := undef) rfl rfl (by kernel_rfl) (by kernel_rfl) (by kernel_rfl) (fun _ _ _ h => h) (Or.inr ⟨by rfl, rfl⟩) (by assumption) ?_
        try simp only [Act.put, List.setIfInBounds_toArray, List.set_cons_zero, List.set_cons_succ]
        refine takeF (i := 18) (d := 121) (v := undef) rfl rfl (by kernel_rfl) (by kernel_rfl) (by kernel_rfl) (fun _ _ _ h => h) (Or.inr ⟨by rfl, rfl⟩) (by assumption) ?_
        try simp only [Act.put, List.setIfInBounds_toArray, List.set_cons_zero, List.set_cons_succ]
        refine takeF (i := 19) (d := 122) (v := undef) rfl rfl (by kernel_rfl) (by kernel_rfl) (by kernel_rfl) (fun _ _ _ h => h) (Or.inr ⟨by rfl, rfl⟩) (by assumption) ?_
        try simp only [Act.put, List.setIfInBounds_toArray, List.set_cons_zero, List.set_cons_succ]
        refine takeF (i := 20) (d := 123) (v := undef) rfl rfl (by kernel_rfl) (by kernel_rfl) (by kernel_rfl) (fun _ _ _ h => h) (Or.inr ⟨by rfl, rfl⟩) (by assumption) ?_
        try simp only [Act.put, List.setIfInBounds_toArray, List.set_cons_zero, List.set_cons_succ]
        refine takeF (i := 21) (d := 124) (v := undef) rfl rfl (by kernel_rfl) (by kernel_rfl) (by kernel_rfl) (fun _ _ _ h => h) (Or.inr ⟨by rfl, rfl⟩) (by assumption) ?_
        try simp only [Act.put, List.setIfInBounds_toArray, List.set_cons_zero, List.set_cons_succ]
        refine takeF (i := 22) (d := 125) (v := undef) rfl rfl (by kernel_rfl) (by kernel_rfl) (by kernel_rfl) (fun _ _ _ h => h) (Or.inr ⟨by rfl, rfl⟩) (by assumption) ?_
        try simp only [Act.put, List.setIfInBounds_toArray, List.set_cons_zero, List.set_cons_succ]
        refine takeF (i := 23) (d := 126) (v := ?v323) rfl rfl (by kernel_rfl) (by kernel_rfl) (by kernel_rfl) (fun _ _ _ h => h) (Or.inl ⟨by rfl, ?y323⟩) (by assumption) ?r323
        case y323 => (intro w hSw; (try dsimp only at hSw); go_simp; try with_reducible rfl)
        try simp only [Act.put, List.setIfInBounds_toArray, List.set_cons_zero, List.set_cons_succ]
        refine takeF (i := 24) (d := 127) (v := ?v324) rfl rfl (by kernel_rfl) (by kernel_rfl) (by kernel_rfl) (fun _ _ _ h => h) (Or.inl ⟨by rfl, ?y324⟩) (by assumption) ?r324
        case y324 => (intro w hSw; (try dsimp only at hSw); go_simp; try with_reducible rfl)
        try simp only [Act.put, List.setIfInBounds_toArray, List.set_cons_zero, List.set_cons_succ]
        refine wpAnyH_done (by kernel_rfl) ?_ _
        try go_wp2_with fail
        go_meet
        exact ⟨rfl, V0, V1, V2, HW.out⟩
      · subst hc
        have zq : sz 10 q := by rw [hq]; exact sz_div (by decide) zx zy hy
        replace hy := Lib.hid hy
        replace hq := Lib.hid hq
        refine wp_region_held_drew (S := fun w' => w'.cell? ⟨g0, 0, none⟩ = some (.bool (sn (na x))) ∧ w'.cell? ⟨g0, 1, none⟩ = some (.slice X01 (ln (ab (na x))) (ln (ab (na x)))) ∧ w'.cell? ⟨g0, 2, none⟩ = some (.bool (sn (nb x))) ∧ w'.cell? ⟨g0, 3, none⟩ = some (.slice X02 (ln (ab (nb x))) (ln (ab (nb x)))) ∧ w'.cell? ⟨g0, 4, none⟩ = some (.slice X03 (ln (un x)) (ln (un x))) ∧ w'.cell? ⟨g1, 0, none⟩ = some (.bool (sn (na y))) ∧ w'.cell? ⟨g1, 1, none⟩ = some (.slice X11 (ln (ab (na y))) (ln (ab (na y)))) ∧ w'.cell? ⟨g1, 2, none⟩ = some (.bool (sn (nb y))) ∧ w'.cell? ⟨g1, 3, none⟩ = some (.slice X12 (ln (ab (nb y))) (ln (ab (nb y)))) ∧ w'.cell? ⟨g1, 4, none⟩ = some (.slice X13 (ln (un y)) (ln (un y))) ∧ w'.cell? ⟨g2, 0, none⟩ = some (.bool (sn (na z))) ∧ w'.cell? ⟨g2, 1, none⟩ = some (.slice X21 (ln (ab (na z))) (ln (ab (na z)))) ∧ w'.cell? ⟨g2, 2, none⟩ = some (.bool (sn (nb z))) ∧ w'.cell? ⟨g2, 3, none⟩ = some (.slice X22 (ln (ab (nb z))) (ln (ab (nb z)))) ∧ w'.cell? ⟨g2, 4, none⟩ = some (.slice X23 (ln (un z)) (ln (un z))) ∧ w'.cell? ⟨g3, 0, none⟩ = some (.bool (sn (na q))) ∧ w'.cell? ⟨g3, 1, none⟩ = some (.slice Q1 (ln (ab (na q))) (ln (ab (na q)))) ∧ w'.cell? ⟨g3, 2, none⟩ = some (.bool (sn (nb q))) ∧ w'.cell? ⟨g3, 3, none⟩ = some (.slice Q2 (ln (ab (nb q))) (ln (ab (nb q)))) ∧ w'.cell? ⟨g3, 4, none⟩ = some (.slice Q3 (ln (un q)) (ln (un q)))) (by kernel_rfl) ?_ (fun hHeld => ?_)
        · exact ⟨V0.2.1.1, V0.2.1.2.1, V0.2.1.2.2.1, V0.2.1.2.2.2.1, V0.2.1.2.2.2.2, V1.2.1.1, V1.2.1.2.1, V1.2.1.2.2.1, V1.2.1.2.2.2.1, V1.2.1.2.2.2.2, V2.2.1.1, V2.2.1.2.1, V2.2.1.2.2.1, V2.2.1.2.2.2.1, V2.2.1.2.2.2.2, V3.2.1.1, V3.2.1.2.1, V3.2.1.2.2.1, V3.2.1.2.2.2.1, V3.2.1.2.2.2.2⟩
        refine takeF (i := 2) (d := 105) (v := ?v325) rfl rfl (by kernel_rfl) (by kernel_rfl) (by kernel_rfl) (fun _ _ _ h => h) (Or.inl ⟨by rfl, ?y325⟩) (by assumption) ?r325
        case y325 => (intro w hSw; (try dsimp only at hSw); go_simp; try with_reducible rfl)
        try simp only [Act.put, List.setIfInBounds_toArray, List.set_cons_zero, List.set_cons_succ]
        refine takeF (i := 3) (d := 106) (v := ?v326) rfl rfl (by kernel_rfl) (by kernel_rfl) (by kernel_rfl) (fun _ _ _ h => h) (Or.inl ⟨by rfl, ?y326⟩) (by assumption) ?r326
        case y326 => (intro w hSw; (try dsimp only at hSw); go_simp; try with_reducible rfl)
        try simp only [Act.put, List.setIfInBounds_toArray, List.set_cons_zero, List.set_cons_succ]
        refine takeF (i := 0) (d := 103) (v := ?v327) rfl rfl (by kernel_rfl) (by kernel_rfl) (by kernel_rfl) (fun _ _ _ h => h) (Or.inl ⟨by rfl, ?y327⟩) (by assumption) ?r327
        case y327 => (intro w hSw; (try dsimp only at hSw); go_simp; try with_reducible rfl)
        try simp only [Act.put, List.setIfInBounds_toArray, List.set_cons_zero, List.set_cons_succ]
        refine wpAnyH_ready (rs := [1]) (by kernel_rfl) (by simp) (AllReadyH.cons rfl (fun K hK => ?_) AllReadyH.nil)
        go_simp
        refine (clear_to y X11 X12 X13 _ (by exact V1.2.2) (zy.mono (by decide)) (la14 hy.out)).mono ?_
        rintro e w130 ⟨rfl, hb130⟩
        replace hb130 := undrew hb130
        replace V0 := VarAt.to V0 hb130
        replace V1 := VarAt.to V1 hb130
        replace V2 := VarAt.to V2 hb130
        replace V3 := VarAt.to V3 hb130
        replace HW := Lib.hid (hstep HW hb130)
        clear hb130
        refine hK.out _ _ ?_ (fun hHeld => ?_)
        · exact ⟨V0.2.1.1, V0.2.1.2.1, V0.2.1.2.2.1, V0.2.1.2.2.2.1, V0.2.1.2.2.2.2, V1.2.1.1, V1.2.1.2.1, V1.2.1.2.2.1, V1.2.1.2.2.2.1, V1.2.1.2.2.2.2, V2.2.1.1, V2.2.1.2.1, V2.2.1.2.2.1, V2.2.1.2.2.2.1, V2.2.1.2.2.2.2, V3.2.1.1, V3.2.1.2.1, V3.2.1.2.2.1, V3.2.1.2.2.2.1, V3.2.1.2.2.2.2⟩
        clear hK K
        try simp only [Act.put, List.setIfInBounds_toArray, List.set_cons_zero, List.set_cons_succ]
        refine takeF (i := 4) (d := 107) (v := ?v328) rfl rfl (by kernel_rfl) (by kernel_rfl) (by kernel_rfl) (fun _ _ _ h => h) (Or.inl ⟨by rfl, ?y328⟩) (by assumption) ?r328
        case y328 => (intro w hSw; (try dsimp only at hSw); go_simp; try with_reducible rfl)
        try simp only [Act.put, List.setIfInBounds_toArray, List.set_cons_zero, List.set_cons_succ]
        refine takeF (i := 5) (d := 108) (v := ?v329) rfl rfl (by kernel_rfl) (by kernel_rfl) (by kernel_rfl) (fun _ _ _ h => h) (Or.inl ⟨by rfl, ?y329⟩) (by assumption) ?r329
        case y329 => (intro w hSw; (try dsimp only at hSw); go_simp; try with_reducible rfl)
        try simp only [Act.put, List.setIfInBounds_toArray, List.set_cons_zero, List.set_cons_succ]
        refine takeF (i := 6) (d := 109) (v := ?v330) rfl rfl (by kernel_rfl) (by kernel_rfl) (by kernel_rfl) (fun _ _ _ h => h) (Or.inl ⟨by rfl, ?y330⟩) (by assumption) ?r330
        case y330 => (intro w hSw; (try dsimp only at hSw); go_simp; try with_reducible rfl)
        try simp only [Act.put, List.setIfInBounds_toArray, List.set_cons_zero, List.set_cons_succ]
        refine takeF (i := 7) (d := 110) (v := ?v331) rfl rfl (by kernel_rfl) (by kernel_rfl) (by kernel_rfl) (fun _ _ _ h => h) (Or.inl ⟨by rfl, ?y331⟩) (by assumption) ?r331
        case y331 => (intro w hSw; (try dsimp only at hSw); go_simp; try with_reducible rfl)
        try simp only [Act.put, List.setIfInBounds_toArray, List.set_cons_zero, List.set_cons_succ]
        refine takeF (i := 8) (d := 111) (v := ?v332) rfl rfl (by kernel_rfl) (by kernel_rfl) (by kernel_rfl) (fun _ _ _ h => h) (Or.inl ⟨by rfl, ?y332⟩) (by assumption) ?r332
        case y332 => (intro w hSw; (try dsimp only at hSw); go_simp; try with_reducible rfl)
        try simp only [Act.put, List.setIfInBounds_toArray, List.set_cons_zero, List.set_cons_succ]
        refine takeF (i := 9) (d := 112) (v := undef) rfl rfl (by kernel_rfl) (by kernel_rfl) (by kernel_rfl) (fun _ _ _ h => h) (Or.inr ⟨by rfl, rfl⟩) (by assumption) ?_
        try simp only [Act.put, List.setIfInBounds_toArray, List.set_cons_zero, List.set_cons_succ]
        refine takeF (i := 10) (d := 113) (v := undef) rfl rfl (by kernel_rfl) (by kernel_rfl) (by kernel_rfl) (fun _ _ _ h => h) (Or.inr ⟨by rfl, rfl⟩) (by assumption) ?_
        try simp only [Act.put, List.setIfInBounds_toArray, List.set_cons_zero, List.set_cons_succ]
        refine takeF (i := 11) (d := 114) (v := ?v335) rfl rfl (by kernel_rfl) (by kernel_rfl) (by kernel_rfl) (fun _ _ _ h => h) (Or.inl ⟨by rfl, ?y335⟩) (by assumption) ?r335
        case y335 => (intro w hSw; (try dsimp only at hSw); go_simp; try with_reducible rfl)
        try simp only [Act.put, List.setIfInBounds_toArray, List.set_cons_zero, List.set_cons_succ]
        refine takeF (i := 12) (d := 115) (v := ?v336) rfl rfl (by kernel_rfl) (by kernel_rfl) (by kernel_rfl) (fun _ _ _ h => h) (Or.inl ⟨by rfl, ?y336⟩) (by assumption) ?r336
        case y336 => (intro w hSw; (try dsimp only at hSw); go_simp; try with_reducible rfl)
        try simp only [Act.put, List.setIfInBounds_toArray, List.set_cons_zero, List.set_cons_succ]
        refine takeF (i := 13) (d := 116) (v := ?v337) rfl rfl (by kernel_rfl) (by kernel_rfl) (by kernel_rfl) (fun _ _ _ h => h) (Or.inl ⟨by rfl, ?y337⟩) (by assumption) ?r337
        case y337 => (intro w hSw; (try dsimp only at hSw); go_simp; try with_reducible rfl)
        try simp only [Act.put, List.setIfInBounds_toArray, List.set_cons_zero, List.set_cons_succ]
        refine takeF (i := 14) (d := 117) (v := ?v338) rfl rfl (by kernel_rfl) (by kernel_rfl) (by kernel_rfl) (fun _ _ _ h => h) (Or.inl ⟨by rfl, ?y338⟩) (by assumption) ?r338
        case y338 => (intro w hSw; (try dsimp only at hSw); go_simp; try with_reducible rfl)
        try simp only [Act.put, List.setIfInBounds_toArray, List.set_cons_zero, List.set_cons_succ]
        refine takeF (i := 15) (d := 118) (v := ?v339) rfl rfl (by kernel_rfl) (by kernel_rfl) (by kernel_rfl) (fun _ _ _ h => h) (Or.inl ⟨by rfl, ?y339⟩) (by assumption) ?r339
        case y339 => (intro w hSw; (try dsimp only at hSw); go_simp; try with_reducible rfl)
        try simp only [Act.put, List.setIfInBounds_toArray, List.set_cons_zero, List.set_cons_succ]
        refine takeF (i := 16) (d := 119) (v := ?v340) rfl rfl (by kernel_rfl) (by kernel_rfl) (by kernel_rfl) (fun _ _ _ h => h) (Or.inl ⟨by rfl, ?y340⟩) (by assumption) ?r340
        case y340 => (intro w hSw; (try dsimp only at hSw); go_simp; try with_reducible rfl)
        try simp only [Act.put, List.setIfInBounds_toArray, List.set_cons_zero, List.set_cons_succ]
        refine takeF (i := 17) (d := 120) (v := ?v341) rfl rfl (by kernel_rfl) (by kernel_rfl) (by kernel_rfl) (fun _ _ _ h => h) (Or.inl ⟨by rfl, ?y341⟩) (by assumption) ?r341
        case y341 => (intro w hSw; (try dsimp only at hSw); go_simp; try with_reducible rfl)
        try simp only [Act.put, List.setIfInBounds_toArray, List.set_cons_zero, List.set_cons_succ]
        refine takeF (i := 18) (d := 121) (v := ?v342) rfl rfl (by kernel_rfl) (by kernel_rfl) (by kernel_rfl) (fun _ _ _ h => h) (Or.inl ⟨by rfl, ?y342⟩) (by assumption) ?r342
        case y342 => (intro w hSw; (try dsimp only at hSw); go_simp; try with_reducible rfl)
        try simp only [Act.put, List.setIfInBounds_toArray, List.set_cons_zero, List.set_cons_succ]
        refine takeF (i := 20) (d := 123) (v := ?v343) rfl rfl (by kernel_rfl) (by kernel_rfl) (by kernel_rfl) (fun _ _ _ h => h) (Or.inl ⟨by rfl, ?y343⟩) (by assumption) ?r343
        case y343 => (intro w hSw; (try dsimp only at hSw); go_simp; try with_reducible rfl)
        try simp only [Act.put, List.setIfInBounds_toArray, List.set_cons_zero, List.set_cons_succ]
        refine wpAnyH_ready (rs := [19]) (by kernel_rfl) (by simp) (AllReadyH.cons rfl (fun K hK => ?_) AllReadyH.nil)
        go_simp
        refine (mul_num q y Q1 Q2 Q3 X11 X12 X13 _ (by exact V3.2.2) (by exact V1.2.2) (zq.mono (by decide)) (zy.mono (by decide))).mono ?_
        rintro e w131 ⟨P1311, P1312, P1313, rfl, h131, hb131⟩
        replace V0 := VarAt.to V0 hb131
        replace V1 := VarAt.to V1 hb131
        replace V2 := VarAt.to V2 hb131
        replace V3 := VarAt.to V3 hb131
        replace HW := Lib.hid (hstep HW hb131)
        clear hb131
        refine hK.out _ _ ?_ (fun hHeld => ?_)
        · exact ⟨V0.2.1.1, V0.2.1.2.1, V0.2.1.2.2.1, V0.2.1.2.2.2.1, V0.2.1.2.2.2.2, V1.2.1.1, V1.2.1.2.1, V1.2.1.2.2.1, V1.2.1.2.2.2.1, V1.2.1.2.2.2.2, V2.2.1.1, V2.2.1.2.1, V2.2.1.2.2.1, V2.2.1.2.2.2.1, V2.2.1.2.2.2.2, V3.2.1.1, V3.2.1.2.1, V3.2.1.2.2.1, V3.2.1.2.2.2.1, V3.2.1.2.2.2.2⟩
        clear hK K
        try simp only [Act.put, List.setIfInBounds_toArray, List.set_cons_zero, List.set_cons_succ]
        refine wpAnyH_ready (rs := [21]) (by kernel_rfl) (by simp) (AllReadyH.cons rfl (fun K hK => ?_) AllReadyH.nil)
        go_simp
        refine (same_to (q.mul y) x P1311 P1312 P1313 X01 X02 X03 _ (by exact h131) (by exact V0.2.2) ((sz_mul (zq.mono (by decide : 10 ≤ 10)) (zy.mono (by decide : 2 ≤ 10))).mono (by decide)) (zx.mono (by decide)) (show decide (q.mul y = x) = true by rw [hq.out]; exact la8 x hy.out)).mono ?_
        rintro e w132 ⟨rfl, hb132⟩
        replace V0 := VarAt.to V0 hb132
        replace V1 := VarAt.to V1 hb132
        replace V2 := VarAt.to V2 hb132
        replace V3 := VarAt.to V3 hb132
        replace h131 := h131.to hb132
        replace HW := Lib.hid (hstep HW hb132)
        clear hb132
        refine hK.out _ _ ?_ (fun hHeld => ?_)
        · exact ⟨V0.2.1.1, V0.2.1.2.1, V0.2.1.2.2.1, V0.2.1.2.2.2.1, V0.2.1.2.2.2.2, V1.2.1.1, V1.2.1.2.1, V1.2.1.2.2.1, V1.2.1.2.2.2.1, V1.2.1.2.2.2.2, V2.2.1.1, V2.2.1.2.1, V2.2.1.2.2.1, V2.2.1.2.2.2.1, V2.2.1.2.2.2.2, V3.2.1.1, V3.2.1.2.1, V3.2.1.2.2.1, V3.2.1.2.2.2.1, V3.2.1.2.2.2.2⟩
        clear hK K
        try simp only [Act.put, List.setIfInBounds_toArray, List.set_cons_zero, List.set_cons_succ]
        refine takeF (i := 22) (d := 125) (v := ?v344) rfl rfl (by kernel_rfl) (by kernel_rfl) (by kernel_rfl) (fun _ _ _ h => h) (Or.inl ⟨by rfl, ?y344⟩) (by assumption) ?r344
        case y344 => (intro w hSw; (try dsimp only at hSw); go_simp; try with_reducible rfl)
        try simp only [Act.put, List.setIfInBounds_toArray, List.set_cons_zero, List.set_cons_succ]
        refine takeF (i := 23) (d := 126) (v := ?v345) rfl rfl (by kernel_rfl) (by kernel_rfl) (by kernel_rfl) (fun _ _ _ h => h) (Or.inl ⟨by rfl, ?y345⟩) (by assumption) ?r345
        case y345 => (intro w hSw; (try dsimp only at hSw); go_simp; try with_reducible rfl)
        try simp only [Act.put, List.setIfInBounds_toArray, List.set_cons_zero, List.set_cons_succ]
        refine takeF (i := 24) (d := 127) (v := ?v346) rfl rfl (by kernel_rfl) (by kernel_rfl) (by kernel_rfl) (fun _ _ _ h => h) (Or.inl ⟨by rfl, ?y346⟩) (by assumption) ?r346
        case y346 => (intro w hSw; (try dsimp only at hSw); go_simp; try with_reducible rfl)
        try simp only [Act.put, List.setIfInBounds_toArray, List.set_cons_zero, List.set_cons_succ]
        refine wpAnyH_done (by kernel_rfl) ?_ _
        try go_wp2_with fail
        go_meet
        exact ⟨rfl, V0, V1, V2, HW.out⟩
    case rest =>
    clear V0 V1 V2 V3 HW HQ
    obtain ⟨rfl, V0, V1, V2, hB⟩ := hcut
    have HW := Lib.hid hB
    clear hB
    go_wp2_with fail
    go_region_held3 (fun w' => w'.cell? ⟨g0, 0, none⟩ = some (.bool (sn (na x))) ∧ w'.cell? ⟨g0, 1, none⟩ = some (.slice X01 (ln (ab (na x))) (ln (ab (na x)))) ∧ w'.cell? ⟨g0, 2, none⟩ = some (.bool (sn (nb x))) ∧ w'.cell? ⟨g0, 3, none⟩ = some (.slice X02 (ln (ab (nb x))) (ln (ab (nb x)))) ∧ w'.cell? ⟨g0, 4, none⟩ = some (.slice X03 (ln (un x)) (ln (un x))) ∧ w'.cell? ⟨g1, 0, none⟩ = some (.bool (sn (na y))) ∧ w'.cell? ⟨g1, 1, none⟩ = some (.slice X11 (ln (ab (na y))) (ln (ab (na y)))) ∧ w'.cell? ⟨g1, 2, none⟩ = some (.bool (sn (nb y))) ∧ w'.cell? ⟨g1, 3, none⟩ = some (.slice X12 (ln (ab (nb y))) (ln (ab (nb y)))) ∧ w'.cell? ⟨g1, 4, none⟩ = some (.slice X13 (ln (un y)) (ln (un y))) ∧ w'.cell? ⟨g2, 0, none⟩ = some (.bool (sn (na z))) ∧ w'.cell? ⟨g2, 1, none⟩ = some (.slice X21 (ln (ab (na z))) (ln (ab (na z)))) ∧ w'.cell? ⟨g2, 2, none⟩ = some (.bool (sn (nb z))) ∧ w'.cell? ⟨g2, 3, none⟩ = some (.slice X22 (ln (ab (nb z))) (ln (ab (nb z)))) ∧ w'.cell? ⟨g2, 4, none⟩ = some (.slice X23 (ln (un z)) (ln (un z)))) (first | with_reducible exact ⟨V0.2.1.1, V0.2.1.2.1, V0.2.1.2.2.1, V0.2.1.2.2.2.1, V0.2.1.2.2.2.2, V1.2.1.1, V1.2.1.2.1, V1.2.1.2.2.1, V1.2.1.2.2.2.1, V1.2.1.2.2.2.2, V2.2.1.1, V2.2.1.2.1, V2.2.1.2.2.1, V2.2.1.2.2.2.1, V2.2.1.2.2.2.2⟩ | exact ⟨V0.2.1.1, V0.2.1.2.1, V0.2.1.2.2.1, V0.2.1.2.2.2.1, V0.2.1.2.2.2.2, V1.2.1.1, V1.2.1.2.1, V1.2.1.2.2.1, V1.2.1.2.2.2.1, V1.2.1.2.2.2.2, V2.2.1.1, V2.2.1.2.1, V2.2.1.2.2.1, V2.2.1.2.2.2.1, V2.2.1.2.2.2.2⟩) (first
      | (have _ := mk151; go_at_call 15; refine (HA _).mono ?_; rintro e w152 ⟨rfl, hb152⟩; replace V0 := VarAt.to V0 hb152; replace V1 := VarAt.to V1 hb152; replace V2 := VarAt.to V2 hb152; replace HW := Lib.hid (hstep HW hb152); clear hb152; have mk152 : True := trivial; clear mk151)
      | (have _ := mk150; go_at_call 18; refine (same_to (x.mul y).norm (x.norm.mul y.norm) P1471 P1472 P1473 P1501 P1502 P1503 _ (by exact h147) (by exact h150) ((sz_norm (sz_mul (zx.mono (by decide : 2 ≤ 2)) (zy.mono (by decide : 2 ≤ 2)))).mono (by decide)) ((sz_mul ((sz_norm zx).mono (by decide : 5 ≤ 5)) ((sz_norm zy).mono (by decide : 5 ≤ 5))).mono (by decide)) (la12 x y)).mono ?_; rintro e w151 ⟨rfl, hb151⟩; replace V0 := VarAt.to V0 hb151; replace V1 := VarAt.to V1 hb151; replace V2 := VarAt.to V2 hb151; replace h147 := h147.to hb151; replace h150 := h150.to hb151; replace HW := Lib.hid (hstep HW hb151); clear hb151; clear h147; clear h150; have mk151 : True := trivial; clear mk150)
      | (have _ := mk149; go_at_call 19; refine (mul_num x.norm y.norm P1481 P1482 P1483 P1491 P1492 P1493 _ (by exact h148) (by exact h149) ((sz_norm zx).mono (by decide)) ((sz_norm zy).mono (by decide))).mono ?_; rintro e w150 ⟨P1501, P1502, P1503, rfl, h150, hb150⟩; replace V0 := VarAt.to V0 hb150; replace V1 := VarAt.to V1 hb150; replace V2 := VarAt.to V2 hb150; replace h147 := h147.to hb150; replace h148 := h148.to hb150; replace h149 := h149.to hb150; replace HW := Lib.hid (hstep HW hb150); clear hb150; clear h148; clear h149; have mk150 : True := trivial; clear mk149)
      | (have _ := mk148; go_at_call 25; refine (norm_num y X11 X12 X13 _ (by exact V1.2.2) (zy.mono (by decide))).mono ?_; rintro e w149 ⟨P1491, P1492, P1493, rfl, h149, hb149⟩; replace V0 := VarAt.to V0 hb149; replace V1 := VarAt.to V1 hb149; replace V2 := VarAt.to V2 hb149; replace h147 := h147.to hb149; replace h148 := h148.to hb149; replace HW := Lib.hid (hstep HW hb149); clear hb149; have mk149 : True := trivial; clear mk148)
      | (have _ := mk147; go_at_call 25; refine (norm_num x X01 X02 X03 _ (by exact V0.2.2) (zx.mono (by decide))).mono ?_; rintro e w148 ⟨P1481, P1482, P1483, rfl, h148, hb148⟩; replace V0 := VarAt.to V0 hb148; replace V1 := VarAt.to V1 hb148; replace V2 := VarAt.to V2 hb148; replace h147 := h147.to hb148; replace HW := Lib.hid (hstep HW hb148); clear hb148; have mk148 : True := trivial; clear mk147)
      | (have _ := mk146; go_at_call 25; refine (norm_num (x.mul y) P1461 P1462 P1463 _ (by exact h146) ((sz_mul (zx.mono (by decide : 2 ≤ 2)) (zy.mono (by decide : 2 ≤ 2))).mono (by decide))).mono ?_; rintro e w147 ⟨P1471, P1472, P1473, rfl, h147, hb147⟩; replace V0 := VarAt.to V0 hb147; replace V1 := VarAt.to V1 hb147; replace V2 := VarAt.to V2 hb147; replace h146 := h146.to hb147; replace HW := Lib.hid (hstep HW hb147); clear hb147; clear h146; have mk147 : True := trivial; clear mk146)
      | (have _ := mk145; go_at_call 19; refine (mul_num x y X01 X02 X03 X11 X12 X13 _ (by exact V0.2.2) (by exact V1.2.2) (zx.mono (by decide)) (zy.mono (by decide))).mono ?_; rintro e w146 ⟨P1461, P1462, P1463, rfl, h146, hb146⟩; replace V0 := VarAt.to V0 hb146; replace V1 := VarAt.to V1 hb146; replace V2 := VarAt.to V2 hb146; replace HW := Lib.hid (hstep HW hb146); clear hb146; have mk146 : True := trivial; clear mk145)
      | (have _ := mk144; go_at_call 18; refine (same_to x.norm (x.mul x.conj) P1421 P1422 P1423 P1441 P1442 P1443 _ (by exact h142) (by exact h144) ((sz_norm zx).mono (by decide)) ((sz_mul (zx.mono (by decide : 2 ≤ 2)) ((sz_conj zx).mono (by decide : 2 ≤ 2))).mono (by decide)) (la11 x)).mono ?_; rintro e w145 ⟨rfl, hb145⟩; replace V0 := VarAt.to V0 hb145; replace V1 := VarAt.to V1 hb145; replace V2 := VarAt.to V2 hb145; replace h142 := h142.to hb145; replace h144 := h144.to hb145; replace HW := Lib.hid (hstep HW hb145); clear hb145; clear h142; clear h144; have mk145 : True := trivial; clear mk144)
      | (have _ := mk143; go_at_call 19; refine (mul_num x x.conj X01 X02 X03 P1431 P1432 P1433 _ (by exact V0.2.2) (by exact h143) (zx.mono (by decide)) ((sz_conj zx).mono (by decide))).mono ?_; rintro e w144 ⟨P1441, P1442, P1443, rfl, h144, hb144⟩; replace V0 := VarAt.to V0 hb144; replace V1 := VarAt.to V1 hb144; replace V2 := VarAt.to V2 hb144; replace h142 := h142.to hb144; replace h143 := h143.to hb144; replace HW := Lib.hid (hstep HW hb144); clear hb144; clear h143; have mk144 : True := trivial; clear mk143)
      | (have _ := mk142; go_at_call 24; refine (conj_any x X01 X02 X03 _ (by exact V0.2.2)).mono ?_; rintro e w143 ⟨P1431, P1432, P1433, rfl, h143, hb143⟩; replace V0 := VarAt.to V0 hb143; replace V1 := VarAt.to V1 hb143; replace V2 := VarAt.to V2 hb143; replace h142 := h142.to hb143; replace HW := Lib.hid (hstep HW hb143); clear hb143; have mk143 : True := trivial; clear mk142)
      | (have _ := mk141; go_at_call 25; refine (norm_num x X01 X02 X03 _ (by exact V0.2.2) (zx.mono (by decide))).mono ?_; rintro e w142 ⟨P1421, P1422, P1423, rfl, h142, hb142⟩; replace V0 := VarAt.to V0 hb142; replace V1 := VarAt.to V1 hb142; replace V2 := VarAt.to V2 hb142; replace HW := Lib.hid (hstep HW hb142); clear hb142; have mk142 : True := trivial; clear mk141)
      | (have _ := mk140; go_at_call 18; refine (same_to (x.mul y).conj (x.conj.mul y.conj) P1371 P1372 P1373 P1401 P1402 P1403 _ (by exact h137) (by exact h140) ((sz_conj (sz_mul (zx.mono (by decide : 2 ≤ 2)) (zy.mono (by decide : 2 ≤ 2)))).mono (by decide)) ((sz_mul ((sz_conj zx).mono (by decide : 2 ≤ 2)) ((sz_conj zy).mono (by decide : 2 ≤ 2))).mono (by decide)) (la10 x y)).mono ?_; rintro e w141 ⟨rfl, hb141⟩; replace V0 := VarAt.to V0 hb141; replace V1 := VarAt.to V1 hb141; replace V2 := VarAt.to V2 hb141; replace h137 := h137.to hb141; replace h140 := h140.to hb141; replace HW := Lib.hid (hstep HW hb141); clear hb141; clear h137; clear h140; have mk141 : True := trivial; clear mk140)
      | (have _ := mk139; go_at_call 19; refine (mul_num x.conj y.conj P1381 P1382 P1383 P1391 P1392 P1393 _ (by exact h138) (by exact h139) ((sz_conj zx).mono (by decide)) ((sz_conj zy).mono (by decide))).mono ?_; rintro e w140 ⟨P1401, P1402, P1403, rfl, h140, hb140⟩; replace V0 := VarAt.to V0 hb140; replace V1 := VarAt.to V1 hb140; replace V2 := VarAt.to V2 hb140; replace h137 := h137.to hb140; replace h138 := h138.to hb140; replace h139 := h139.to hb140; replace HW := Lib.hid (hstep HW hb140); clear hb140; clear h138; clear h139; have mk140 : True := trivial; clear mk139)
      | (have _ := mk138; go_at_call 24; refine (conj_any y X11 X12 X13 _ (by exact V1.2.2)).mono ?_; rintro e w139 ⟨P1391, P1392, P1393, rfl, h139, hb139⟩; replace V0 := VarAt.to V0 hb139; replace V1 := VarAt.to V1 hb139; replace V2 := VarAt.to V2 hb139; replace h137 := h137.to hb139; replace h138 := h138.to hb139; replace HW := Lib.hid (hstep HW hb139); clear hb139; have mk139 : True := trivial; clear mk138)
      | (have _ := mk137; go_at_call 24; refine (conj_any x X01 X02 X03 _ (by exact V0.2.2)).mono ?_; rintro e w138 ⟨P1381, P1382, P1383, rfl, h138, hb138⟩; replace V0 := VarAt.to V0 hb138; replace V1 := VarAt.to V1 hb138; replace V2 := VarAt.to V2 hb138; replace h137 := h137.to hb138; replace HW := Lib.hid (hstep HW hb138); clear hb138; have mk138 : True := trivial; clear mk137)
      | (have _ := mk136; go_at_call 24; refine (conj_any (x.mul y) P1361 P1362 P1363 _ (by exact h136)).mono ?_; rintro e w137 ⟨P1371, P1372, P1373, rfl, h137, hb137⟩; replace V0 := VarAt.to V0 hb137; replace V1 := VarAt.to V1 hb137; replace V2 := VarAt.to V2 hb137; replace h136 := h136.to hb137; replace HW := Lib.hid (hstep HW hb137); clear hb137; clear h136; have mk137 : True := trivial; clear mk136)
      | (have _ := mk135; go_at_call 19; refine (mul_num x y X01 X02 X03 X11 X12 X13 _ (by exact V0.2.2) (by exact V1.2.2) (zx.mono (by decide)) (zy.mono (by decide))).mono ?_; rintro e w136 ⟨P1361, P1362, P1363, rfl, h136, hb136⟩; replace V0 := VarAt.to V0 hb136; replace V1 := VarAt.to V1 hb136; replace V2 := VarAt.to V2 hb136; replace HW := Lib.hid (hstep HW hb136); clear hb136; have mk136 : True := trivial; clear mk135)
      | (have _ := mk134; go_at_call 18; refine (same_to (x.add y).conj (x.conj.add y.conj) P1311 P1312 P1313 P1341 P1342 P1343 _ (by exact h131) (by exact h134) ((sz_conj (sz_add (zx.mono (by decide : 2 ≤ 2)) (zy.mono (by decide : 2 ≤ 2)))).mono (by decide)) ((sz_add ((sz_conj zx).mono (by decide : 2 ≤ 2)) ((sz_conj zy).mono (by decide : 2 ≤ 2))).mono (by decide)) (la9 x y)).mono ?_; rintro e w135 ⟨rfl, hb135⟩; replace V0 := VarAt.to V0 hb135; replace V1 := VarAt.to V1 hb135; replace V2 := VarAt.to V2 hb135; replace h131 := h131.to hb135; replace h134 := h134.to hb135; replace HW := Lib.hid (hstep HW hb135); clear hb135; clear h131; clear h134; have mk135 : True := trivial; clear mk134)
      | (have _ := mk133; go_at_call 17; refine (add_num x.conj y.conj P1321 P1322 P1323 P1331 P1332 P1333 _ (by exact h132) (by exact h133) ((sz_conj zx).mono (by decide)) ((sz_conj zy).mono (by decide))).mono ?_; rintro e w134 ⟨P1341, P1342, P1343, rfl, h134, hb134⟩; replace V0 := VarAt.to V0 hb134; replace V1 := VarAt.to V1 hb134; replace V2 := VarAt.to V2 hb134; replace h131 := h131.to hb134; replace h132 := h132.to hb134; replace h133 := h133.to hb134; replace HW := Lib.hid (hstep HW hb134); clear hb134; clear h132; clear h133; have mk134 : True := trivial; clear mk133)
      | (have _ := mk132; go_at_call 24; refine (conj_any y X11 X12 X13 _ (by exact V1.2.2)).mono ?_; rintro e w133 ⟨P1331, P1332, P1333, rfl, h133, hb133⟩; replace V0 := VarAt.to V0 hb133; replace V1 := VarAt.to V1 hb133; replace V2 := VarAt.to V2 hb133; replace h131 := h131.to hb133; replace h132 := h132.to hb133; replace HW := Lib.hid (hstep HW hb133); clear hb133; have mk133 : True := trivial; clear mk132)
      | (have _ := mk131; go_at_call 24; refine (conj_any x X01 X02 X03 _ (by exact V0.2.2)).mono ?_; rintro e w132 ⟨P1321, P1322, P1323, rfl, h132, hb132⟩; replace V0 := VarAt.to V0 hb132; replace V1 := VarAt.to V1 hb132; replace V2 := VarAt.to V2 hb132; replace h131 := h131.to hb132; replace HW := Lib.hid (hstep HW hb132); clear hb132; have mk132 : True := trivial; clear mk131)
      | (have _ := mk130; go_at_call 24; refine (conj_any (x.add y) P1301 P1302 P1303 _ (by exact h130)).mono ?_; rintro e w131 ⟨P1311, P1312, P1313, rfl, h131, hb131⟩; replace V0 := VarAt.to V0 hb131; replace V1 := VarAt.to V1 hb131; replace V2 := VarAt.to V2 hb131; replace h130 := h130.to hb131; replace HW := Lib.hid (hstep HW hb131); clear hb131; clear h130; have mk131 : True := trivial; clear mk130)
      | (go_at_call 17; refine (add_num x y X01 X02 X03 X11 X12 X13 _ (by exact V0.2.2) (by exact V1.2.2) (zx.mono (by decide)) (zy.mono (by decide))).mono ?_; rintro e w130 ⟨P1301, P1302, P1303, rfl, h130, hb130⟩; have hb130 := undrew hb130; replace V0 := VarAt.to V0 hb130; replace V1 := VarAt.to V1 hb130; replace V2 := VarAt.to V2 hb130; replace HW := Lib.hid (hstep HW hb130); clear hb130; have mk130 : True := trivial))
    go_wp2_with fail
    exact bodyPost_ret (v := .bool true) (by simp [results, Try.results4, go_sem]) rfl ⟨rfl, HW.out⟩

end Go.Proofs.Ytapmhidddgicfaa
