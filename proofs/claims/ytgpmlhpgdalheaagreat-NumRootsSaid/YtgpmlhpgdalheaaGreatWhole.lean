/- Integers of a sign and a number in words: wholeOf, of64, minus, plus, times, scaled, cmp, floor. Conditions: at most 2^40 words. -/
import Derived.Test.YtgpmlhpgdalheaaGreatGcd
namespace Go.Proofs.YtgpmlhpgdalheaaGreat
open Go.RowKit Pl
set_option linter.unusedVariables false
set_option linter.unusedSimpArgs false

/-- The sign and the magnitude of an integer. -/
def sn (z : Int) : Bool := decide (z < 0)
def ab (z : Int) : Nat := z.natAbs
/-- The integer of a sign and a magnitude. -/
def zi (s : Bool) (n : Nat) : Int := if s then -(n : Int) else n
theorem zi_ab (s : Bool) (n : Nat) : ab (zi s n) = n := by unfold ab zi; split <;> omega
theorem zi_sn (s : Bool) {n : Nat} (h : n ≠ 0) : sn (zi s n) = s := by unfold sn zi; cases s <;> simp <;> omega
theorem zi_zero (s : Bool) : zi s 0 = 0 := by unfold zi; split <;> rfl
theorem sn_zero : sn 0 = false := rfl
theorem zi_self (z : Int) : zi (sn z) (ab z) = z := by
  unfold zi sn ab
  by_cases h : z < 0
  · rw [if_pos (decide_eq_true h)]; omega
  · rw [decide_eq_false h]; simp; omega

/-- A call hands back an integer, and turns nothing that was there. -/
def RetWhole (w : World) (z : Int) (e : Ending) (w' : World) : Prop := ∃ A, e = .returned (.agg #[.bool (sn z), .slice A (ln (ab z)) (ln (ab z))]) ∧ Nat32 w' A (ab z) ∧ Below w.heap.size w w'

theorem retWhole_mk {w w' : World} {s : Bool} {n : Nat} {A : Option Addr} (h : Nat32 w' A n) (hb : Below w.heap.size w w') (c : Bool) (hc : c = (s && decide (0 < ln n))) : RetWhole w (zi s n) (.returned (.agg #[.bool c, .slice A (ln n) (ln n)])) w' := by
  refine ⟨A, ?_, by rw [zi_ab]; exact h, hb⟩
  rw [zi_ab, hc]
  by_cases hn : n = 0
  · subst hn; rw [zi_zero, sn_zero, ln_zero]; simp
  · rw [zi_sn s hn]; have := ln_pos hn; simp [this]

set_option maxHeartbeats 400000 in
theorem wholeOf_any (s : Bool) (n : Nat) (A : Option Addr) (w : World) (h : Nat32 w A n) :
    Calls Tryz.prog 123 #[.bool s, .slice A (ln n) (ln n)] w (RetWhole w (zi s n)) := by
  have hb : Below w.heap.size w (w.alloc (.cells #[.bool false, .slice none 0 0] 28)) := (Below.refl _ _).alloc (Nat.le_refl _) _
  have hb2 : Below w.heap.size w (w.alloc (.cells #[.bool (s && decide (0 < ln n)), .slice A (ln n) (ln n)] 28)) := (Below.refl _ _).alloc (Nat.le_refl _) _
  cases s
  · go_enter Tryz.func123, Tryz.ntmps123
    go_wp2_with fail
    exact bodyPost_ret (v := .agg #[.bool false, .slice A (ln n) (ln n)]) (by simp [results, Tryz.results123, go_sem]) rfl (retWhole_mk (h.alloc _) hb2 _ rfl)
  · by_cases hn : n = 0
    · have t : decide (0 < ln n) = false := by rw [hn, ln_zero]; rfl
      clear hn
      go_enter Tryz.func123, Tryz.ntmps123
      go_wp2_with fail
      exact bodyPost_ret (v := .agg #[.bool false, .slice A (ln n) (ln n)]) (by simp [results, Tryz.results123, go_sem]) rfl (retWhole_mk (h.alloc _) ((Below.refl _ _).alloc (Nat.le_refl _) _) _ (by rw [t]; rfl))
    · have t : decide (0 < ln n) = true := by have := ln_pos hn; simpa using this
      clear hn
      go_enter Tryz.func123, Tryz.ntmps123
      go_wp2_with fail
      exact bodyPost_ret (v := .agg #[.bool true, .slice A (ln n) (ln n)]) (by simp [results, Tryz.results123, go_sem]) rfl (retWhole_mk (h.alloc _) ((Below.refl _ _).alloc (Nat.le_refl _) _) _ (by rw [t]; rfl))

theorem bcell {W w1 : World} (hb : Below W.heap.size W w1) : (∀ b o, b < W.heap.size → w1.cell? ⟨b, o, none⟩ = W.cell? ⟨b, o, none⟩) ∧ (∀ b o, b < W.heap.size → w1.frozen? ⟨b, o, none⟩ = W.frozen? ⟨b, o, none⟩) :=
  ⟨fun b o h => hb.cell (p := ⟨b, o, none⟩) h, fun b o h => hb.frozen (p := ⟨b, o, none⟩) h⟩

theorem Nat32.setBox {w : World} {A : Option Addr} {n R i : Nat} {v u : Value} (h : Nat32 w A n) (hv : w.cell? ⟨R, 0, none⟩ = some v) (hne : ∀ k m, v ≠ .int k m) : Nat32 (w.setCell ⟨R, i, none⟩ u) A n := fun hn => by
  obtain ⟨b, e, hlt, hc⟩ := h hn
  have hbR : b ≠ R := fun e2 => by
    have h0 := hc 0 (ln_pos hn)
    rw [e2, hv] at h0
    injection h0 with h0
    exact hne _ _ h0
  exact ⟨b, e, by simpa [World.setCell] using hlt, fun j hj => (World.cell?_of_block (Below.heap_setCell _ _ _ _ hbR)).trans (hc j hj)⟩

theorem cell_self {w : World} {R i : Nat} {v u : Value} (hv : w.cell? ⟨R, i, none⟩ = some v) : (w.setCell ⟨R, i, none⟩ u).cell? ⟨R, i, none⟩ = some u := World.cell?_setCell_same' _ _ _ (by simp [hv])

theorem hstep {w W w1 : World} (h : Hid (Below w.heap.size w W)) (hb : Below W.heap.size W w1) : Below w.heap.size w w1 := h.out.trans (hb.mono h.out.size)

/-- The end of a function that hands on a callee's integer: it is stored in the result's block R. -/
theorem retWhole_fin {w W : World} {z : Int} {A : Option Addr} {R : Nat} {c : Bool} (hB : Hid (Below w.heap.size w W)) (h1 : Nat32 W A (ab z)) (hR : w.heap.size ≤ R) (r0 : W.cell? ⟨R, 0, none⟩ = some (.bool c)) :
    RetWhole w z (.returned (.agg #[.bool (sn z), .slice A (ln (ab z)) (ln (ab z))])) ((W.setCell ⟨R, 0, none⟩ (.bool (sn z))).setCell ⟨R, 1, none⟩ (.slice A (ln (ab z)) (ln (ab z)))) :=
  ⟨A, rfl, (h1.setBox r0 (by intro k m e; cases e)).setBox (cell_self r0) (by intro k m e; cases e), (hB.out.setCell (by exact hR) _).setCell (by exact hR) _⟩

theorem keepc {W w1 : World} (hb : Below W.heap.size W w1) {b i : Nat} {v : Value} (h : W.cell? ⟨b, i, none⟩ = some v) (hlt : b < W.heap.size) : w1.cell? ⟨b, i, none⟩ = some v := (hb.cell (p := ⟨b, i, none⟩) hlt).trans h
theorem keepf {W w1 : World} (hb : Below W.heap.size W w1) {b i : Nat} {v : Bool} (h : W.frozen? ⟨b, i, none⟩ = v) (hlt : b < W.heap.size) : w1.frozen? ⟨b, i, none⟩ = v := (hb.frozen (p := ⟨b, i, none⟩) hlt).trans h

theorem undrew {W w1 : World} (h : Below W.drew.heap.size W.drew w1) : Below W.heap.size W w1 := ⟨h.os, h.tape, h.output, h.size, h.block⟩
theorem keeps {w : World} {b i R j : Nat} {v u : Value} (h : w.cell? ⟨b, i, none⟩ = some v) (hne : b ≠ R) : (w.setCell ⟨R, j, none⟩ u).cell? ⟨b, i, none⟩ = some v := (World.cell?_of_block (Below.heap_setCell _ _ _ _ hne)).trans h
theorem onto {W w1 w2 : World} (h : Below W.heap.size W w1) (k : Below w1.heap.size w1 w2) : Below W.heap.size W w2 := h.trans (k.mono h.size)

theorem minus_val (z : Int) : zi (!sn z) (ab z) = -z := by
  unfold zi sn ab
  by_cases h : z < 0
  · rw [decide_eq_true h]; simp; omega
  · rw [decide_eq_false h]; simp; omega

theorem plus_same {a b : Int} (h : sn a = sn b) : zi (sn a) (ab a + ab b) = a + b := by
  unfold zi sn ab at *
  by_cases h1 : a < 0
  · rw [decide_eq_true h1] at h ⊢
    have h2 : b < 0 := by simpa using h.symm
    simp; omega
  · rw [decide_eq_false h1] at h ⊢
    have h2 : ¬ b < 0 := by simpa using h.symm
    simp; omega
theorem plus_ge {a b : Int} (h : sn a ≠ sn b) (hle : ab b ≤ ab a) : zi (sn a) (ab a - ab b) = a + b := by
  unfold zi sn ab at *
  by_cases h1 : a < 0 <;> by_cases h2 : b < 0 <;> simp [h1, h2] at h ⊢ <;> omega
theorem plus_lt {a b : Int} (h : sn a ≠ sn b) (hle : ab a < ab b) : zi (sn b) (ab b - ab a) = a + b := by
  unfold zi sn ab at *
  by_cases h1 : a < 0 <;> by_cases h2 : b < 0 <;> simp [h1, h2] at h ⊢ <;> omega

set_option maxHeartbeats 4000000 in
theorem minus_any (z : Int) (A : Option Addr) (w : World) (hx : Nat32 w A (ab z)) :
    Calls Tryz.prog 105 #[.agg #[.bool (sn (z)), .slice A (ln (ab (z))) (ln (ab (z)))]] w (RetWhole w (-z)) := by
  rw [← minus_val]
  go_enter Tryz.func105, Tryz.ntmps105
  go_wp2_with fail
  obtain ⟨W, hW⟩ : ∃ W : World, W = ((w.alloc (.cells #[.bool (sn (z)), .slice A (ln (ab (z))) (ln (ab (z)))] 28)).alloc (.cells #[.bool false, .slice none 0 0] 28)) := ⟨_, rfl⟩
  have s0_0 : W.cell? ⟨w.heap.size, 0, none⟩ = some (.bool (sn (z))) := by subst hW; go_simp
  have s0_1 : W.cell? ⟨w.heap.size, 1, none⟩ = some (.slice A (ln (ab (z))) (ln (ab (z)))) := by subst hW; go_simp
  have r0 : W.cell? ⟨w.heap.size + 1, 0, none⟩ = some (.bool false) := by subst hW; go_simp
  have f0 : W.frozen? ⟨w.heap.size + 1, 0, none⟩ = false := by subst hW; go_simp
  have r1 : W.cell? ⟨w.heap.size + 1, 1, none⟩ = some (.slice none 0 0) := by subst hW; go_simp
  have f1 : W.frozen? ⟨w.heap.size + 1, 1, none⟩ = false := by subst hW; go_simp
  have HW : Below w.heap.size w W := by subst hW; exact (((Below.refl w.heap.size w).alloc (Nat.le_refl _) _).alloc (by simp) _)
  have l0 : w.heap.size < W.heap.size := by subst hW; simp <;> omega
  have l1 : w.heap.size + 1 < W.heap.size := by subst hW; simp
  have n0 : w.heap.size ≠ w.heap.size + 1 := by omega
  replace hx := hx.to HW
  rw [← hW]
  clear hW
  replace HW := Lib.hid HW
  refine (wholeOf_any (!sn z) (ab z) A _ (by exact hx)).mono ?_
  rintro e w1 ⟨A1, rfl, h1, hb1⟩
  replace s0_0 := keepc hb1 s0_0 l0
  replace s0_1 := keepc hb1 s0_1 l0
  replace r0 := keepc hb1 r0 l1
  replace f0 := keepf hb1 f0 l1
  replace r1 := keepc hb1 r1 l1
  replace f1 := keepf hb1 f1 l1
  replace l0 := Nat.lt_of_lt_of_le l0 hb1.size
  replace l1 := Nat.lt_of_lt_of_le l1 hb1.size
  replace hx := hx.to hb1
  replace HW := Lib.hid (hstep HW hb1)
  clear hb1
  go_wp2_with fail
  exact bodyPost_ret (v := .agg #[.bool (sn (zi (!sn z) (ab z))), .slice A1 (ln (ab (zi (!sn z) (ab z)))) (ln (ab (zi (!sn z) (ab z))))]) (by simp [results, Tryz.results105, go_sem, r0, r1, f0, f1]) rfl (retWhole_fin HW h1 (by omega) r0)

set_option maxHeartbeats 4000000 in
theorem plus_same_any (a b : Int) (A B : Option Addr) (w : World) (hx : Nat32 w A (ab a)) (hy : Nat32 w B (ab b)) (hbx : ln (ab a) ≤ 1099511627776) (hby : ln (ab b) ≤ 1099511627776) (h : sn a = sn b) :
    Calls Tryz.prog 98 #[.agg #[.bool (sn (a)), .slice A (ln (ab (a))) (ln (ab (a)))], .agg #[.bool (sn (b)), .slice B (ln (ab (b))) (ln (ab (b)))]] w (RetWhole w (a + b)) := by
  have t : (sn a == sn b) = true := by rw [h]; simp
  rw [← plus_same h]
  clear h
  go_enter Tryz.func98, Tryz.ntmps98
  go_wp2_with fail
  obtain ⟨W, hW⟩ : ∃ W : World, W = (((w.alloc (.cells #[.bool (sn (a)), .slice A (ln (ab (a))) (ln (ab (a)))] 28)).alloc (.cells #[.bool (sn (b)), .slice B (ln (ab (b))) (ln (ab (b)))] 28)).alloc (.cells #[.bool false, .slice none 0 0] 28)) := ⟨_, rfl⟩
  have s0_0 : W.cell? ⟨w.heap.size, 0, none⟩ = some (.bool (sn (a))) := by subst hW; go_simp
  have s0_1 : W.cell? ⟨w.heap.size, 1, none⟩ = some (.slice A (ln (ab (a))) (ln (ab (a)))) := by subst hW; go_simp
  have s1_0 : W.cell? ⟨w.heap.size + 1, 0, none⟩ = some (.bool (sn (b))) := by subst hW; go_simp
  have s1_1 : W.cell? ⟨w.heap.size + 1, 1, none⟩ = some (.slice B (ln (ab (b))) (ln (ab (b)))) := by subst hW; go_simp
  have r0 : W.cell? ⟨w.heap.size + 1 + 1, 0, none⟩ = some (.bool false) := by subst hW; go_simp
  have f0 : W.frozen? ⟨w.heap.size + 1 + 1, 0, none⟩ = false := by subst hW; go_simp
  have r1 : W.cell? ⟨w.heap.size + 1 + 1, 1, none⟩ = some (.slice none 0 0) := by subst hW; go_simp
  have f1 : W.frozen? ⟨w.heap.size + 1 + 1, 1, none⟩ = false := by subst hW; go_simp
  have HW : Below w.heap.size w W := by subst hW; exact ((((Below.refl w.heap.size w).alloc (Nat.le_refl _) _).alloc (by simp) _).alloc (by simp; omega) _)
  have l0 : w.heap.size < W.heap.size := by subst hW; simp <;> omega
  have l1 : w.heap.size + 1 < W.heap.size := by subst hW; simp <;> omega
  have l2 : w.heap.size + 1 + 1 < W.heap.size := by subst hW; simp
  have n0 : w.heap.size ≠ w.heap.size + 1 + 1 := by omega
  have n1 : w.heap.size + 1 ≠ w.heap.size + 1 + 1 := by omega
  replace hx := hx.to HW
  replace hy := hy.to HW
  rw [← hW]
  clear hW
  replace HW := Lib.hid HW
  go_region_held3 (fun w' => w'.cell? ⟨w.heap.size, 0, none⟩ = some (.bool (sn (a))) ∧ w'.cell? ⟨w.heap.size, 1, none⟩ = some (.slice A (ln (ab (a))) (ln (ab (a)))) ∧ w'.cell? ⟨w.heap.size + 1, 1, none⟩ = some (.slice B (ln (ab (b))) (ln (ab (b))))) (first | with_reducible exact ⟨s0_0, s0_1, s1_1⟩ | with_reducible exact ⟨(keeps (keeps s0_0 n0) n0), (keeps (keeps s0_1 n0) n0), (keeps (keeps s1_1 n1) n1)⟩ | exact ⟨s0_0, s0_1, s1_1⟩) (first
    | (go_at_call 160; refine (add_any (ab a) (ab b) A B _ (by exact hx) (by exact hy) (by omega) (by omega)).mono ?_; rintro e w1 ⟨A1, rfl, h1, hb1⟩; have hb1 := undrew hb1; replace s0_0 := keepc hb1 s0_0 l0; replace s0_1 := keepc hb1 s0_1 l0; replace s1_0 := keepc hb1 s1_0 l1; replace s1_1 := keepc hb1 s1_1 l1; replace r0 := keepc hb1 r0 l2; replace f0 := keepf hb1 f0 l2; replace r1 := keepc hb1 r1 l2; replace f1 := keepf hb1 f1 l2; replace l0 := Nat.lt_of_lt_of_le l0 hb1.size; replace l1 := Nat.lt_of_lt_of_le l1 hb1.size; replace l2 := Nat.lt_of_lt_of_le l2 hb1.size; replace hx := hx.to hb1; replace hy := hy.to hb1; replace HW := Lib.hid (hstep HW hb1); clear hb1)
    | (go_at_call 123; refine (wholeOf_any (sn a) (ab a + ab b) A1 _ (by exact h1)).mono ?_; rintro e w2 ⟨A2, rfl, h2, hb2⟩; replace s0_0 := keepc hb2 s0_0 l0; replace s0_1 := keepc hb2 s0_1 l0; replace s1_0 := keepc hb2 s1_0 l1; replace s1_1 := keepc hb2 s1_1 l1; replace r0 := keepc hb2 r0 l2; replace f0 := keepf hb2 f0 l2; replace r1 := keepc hb2 r1 l2; replace f1 := keepf hb2 f1 l2; replace l0 := Nat.lt_of_lt_of_le l0 hb2.size; replace l1 := Nat.lt_of_lt_of_le l1 hb2.size; replace l2 := Nat.lt_of_lt_of_le l2 hb2.size; replace hx := hx.to hb2; replace hy := hy.to hb2; replace h1 := h1.to hb2; replace HW := Lib.hid (hstep HW hb2); clear hb2))
  go_wp2_with fail
  exact bodyPost_ret (v := .agg #[.bool (sn (zi (sn a) (ab a + ab b))), .slice A2 (ln (ab (zi (sn a) (ab a + ab b)))) (ln (ab (zi (sn a) (ab a + ab b))))]) (by simp [results, Tryz.results98, go_sem, r0, r1, f0, f1]) rfl (retWhole_fin HW h2 (by omega) r0)

set_option maxHeartbeats 4000000 in
theorem plus_ge_any (a b : Int) (A B : Option Addr) (w : World) (hx : Nat32 w A (ab a)) (hy : Nat32 w B (ab b)) (hbx : ln (ab a) ≤ 1099511627776) (hby : ln (ab b) ≤ 1099511627776) (h : sn a ≠ sn b) (hle : ab b ≤ ab a) :
    Calls Tryz.prog 98 #[.agg #[.bool (sn (a)), .slice A (ln (ab (a))) (ln (ab (a)))], .agg #[.bool (sn (b)), .slice B (ln (ab (b))) (ln (ab (b)))]] w (RetWhole w (a + b)) := by
  have t : (sn a == sn b) = false := by simpa using h
  have t2 : decide (0 ≤ cmpN (ab a) (ab b)) = true := by rw [decide_eq_true_eq]; unfold cmpN; rw [if_neg (by omega)]; split <;> omega
  rw [← plus_ge h hle]
  have HL := Lib.hid hle
  clear h hle
  go_enter Tryz.func98, Tryz.ntmps98
  go_wp2_with fail
  obtain ⟨W, hW⟩ : ∃ W : World, W = (((w.alloc (.cells #[.bool (sn (a)), .slice A (ln (ab (a))) (ln (ab (a)))] 28)).alloc (.cells #[.bool (sn (b)), .slice B (ln (ab (b))) (ln (ab (b)))] 28)).alloc (.cells #[.bool false, .slice none 0 0] 28)) := ⟨_, rfl⟩
  have s0_0 : W.cell? ⟨w.heap.size, 0, none⟩ = some (.bool (sn (a))) := by subst hW; go_simp
  have s0_1 : W.cell? ⟨w.heap.size, 1, none⟩ = some (.slice A (ln (ab (a))) (ln (ab (a)))) := by subst hW; go_simp
  have s1_0 : W.cell? ⟨w.heap.size + 1, 0, none⟩ = some (.bool (sn (b))) := by subst hW; go_simp
  have s1_1 : W.cell? ⟨w.heap.size + 1, 1, none⟩ = some (.slice B (ln (ab (b))) (ln (ab (b)))) := by subst hW; go_simp
  have r0 : W.cell? ⟨w.heap.size + 1 + 1, 0, none⟩ = some (.bool false) := by subst hW; go_simp
  have f0 : W.frozen? ⟨w.heap.size + 1 + 1, 0, none⟩ = false := by subst hW; go_simp
  have r1 : W.cell? ⟨w.heap.size + 1 + 1, 1, none⟩ = some (.slice none 0 0) := by subst hW; go_simp
  have f1 : W.frozen? ⟨w.heap.size + 1 + 1, 1, none⟩ = false := by subst hW; go_simp
  have HW : Below w.heap.size w W := by subst hW; exact ((((Below.refl w.heap.size w).alloc (Nat.le_refl _) _).alloc (by simp) _).alloc (by simp; omega) _)
  have l0 : w.heap.size < W.heap.size := by subst hW; simp <;> omega
  have l1 : w.heap.size + 1 < W.heap.size := by subst hW; simp <;> omega
  have l2 : w.heap.size + 1 + 1 < W.heap.size := by subst hW; simp
  have n0 : w.heap.size ≠ w.heap.size + 1 + 1 := by omega
  have n1 : w.heap.size + 1 ≠ w.heap.size + 1 + 1 := by omega
  replace hx := hx.to HW
  replace hy := hy.to HW
  rw [← hW]
  clear hW
  replace HW := Lib.hid HW
  refine (cmp_any (ab a) (ab b) A B _ (by exact hx) (by exact hy) (by omega)).mono ?_
  rintro e w1 ⟨rfl, hb1⟩
  replace s0_0 := keepc hb1 s0_0 l0
  replace s0_1 := keepc hb1 s0_1 l0
  replace s1_0 := keepc hb1 s1_0 l1
  replace s1_1 := keepc hb1 s1_1 l1
  replace r0 := keepc hb1 r0 l2
  replace f0 := keepf hb1 f0 l2
  replace r1 := keepc hb1 r1 l2
  replace f1 := keepf hb1 f1 l2
  replace l0 := Nat.lt_of_lt_of_le l0 hb1.size
  replace l1 := Nat.lt_of_lt_of_le l1 hb1.size
  replace l2 := Nat.lt_of_lt_of_le l2 hb1.size
  replace hx := hx.to hb1
  replace hy := hy.to hb1
  replace HW := Lib.hid (hstep HW hb1)
  clear hb1
  go_wp2_with fail
  go_region_held3 (fun w' => w'.cell? ⟨w.heap.size, 0, none⟩ = some (.bool (sn (a))) ∧ w'.cell? ⟨w.heap.size, 1, none⟩ = some (.slice A (ln (ab (a))) (ln (ab (a)))) ∧ w'.cell? ⟨w.heap.size + 1, 1, none⟩ = some (.slice B (ln (ab (b))) (ln (ab (b))))) (first | with_reducible exact ⟨s0_0, s0_1, s1_1⟩ | with_reducible exact ⟨(keeps (keeps s0_0 n0) n0), (keeps (keeps s0_1 n0) n0), (keeps (keeps s1_1 n1) n1)⟩ | exact ⟨s0_0, s0_1, s1_1⟩) (first
    | (go_at_call 161; refine (sub_any (ab a) (ab b) A B _ (by exact hx) (by exact hy) (by omega) HL.out).mono ?_; rintro e w2 ⟨A2, rfl, h2, hb2⟩; have hb2 := undrew hb2; replace s0_0 := keepc hb2 s0_0 l0; replace s0_1 := keepc hb2 s0_1 l0; replace s1_0 := keepc hb2 s1_0 l1; replace s1_1 := keepc hb2 s1_1 l1; replace r0 := keepc hb2 r0 l2; replace f0 := keepf hb2 f0 l2; replace r1 := keepc hb2 r1 l2; replace f1 := keepf hb2 f1 l2; replace l0 := Nat.lt_of_lt_of_le l0 hb2.size; replace l1 := Nat.lt_of_lt_of_le l1 hb2.size; replace l2 := Nat.lt_of_lt_of_le l2 hb2.size; replace hx := hx.to hb2; replace hy := hy.to hb2; replace HW := Lib.hid (hstep HW hb2); clear hb2)
    | (go_at_call 123; refine (wholeOf_any (sn a) (ab a - ab b) A2 _ (by exact h2)).mono ?_; rintro e w3 ⟨A3, rfl, h3, hb3⟩; replace s0_0 := keepc hb3 s0_0 l0; replace s0_1 := keepc hb3 s0_1 l0; replace s1_0 := keepc hb3 s1_0 l1; replace s1_1 := keepc hb3 s1_1 l1; replace r0 := keepc hb3 r0 l2; replace f0 := keepf hb3 f0 l2; replace r1 := keepc hb3 r1 l2; replace f1 := keepf hb3 f1 l2; replace l0 := Nat.lt_of_lt_of_le l0 hb3.size; replace l1 := Nat.lt_of_lt_of_le l1 hb3.size; replace l2 := Nat.lt_of_lt_of_le l2 hb3.size; replace hx := hx.to hb3; replace hy := hy.to hb3; replace h2 := h2.to hb3; replace HW := Lib.hid (hstep HW hb3); clear hb3))
  go_wp2_with fail
  exact bodyPost_ret (v := .agg #[.bool (sn (zi (sn a) (ab a - ab b))), .slice A3 (ln (ab (zi (sn a) (ab a - ab b)))) (ln (ab (zi (sn a) (ab a - ab b))))]) (by simp [results, Tryz.results98, go_sem, r0, r1, f0, f1]) rfl (retWhole_fin HW h3 (by omega) r0)

set_option maxHeartbeats 4000000 in
theorem plus_lt_any (a b : Int) (A B : Option Addr) (w : World) (hx : Nat32 w A (ab a)) (hy : Nat32 w B (ab b)) (hbx : ln (ab a) ≤ 1099511627776) (hby : ln (ab b) ≤ 1099511627776) (h : sn a ≠ sn b) (hle : ab a < ab b) :
    Calls Tryz.prog 98 #[.agg #[.bool (sn (a)), .slice A (ln (ab (a))) (ln (ab (a)))], .agg #[.bool (sn (b)), .slice B (ln (ab (b))) (ln (ab (b)))]] w (RetWhole w (a + b)) := by
  have t : (sn a == sn b) = false := by simpa using h
  have t2 : decide (0 ≤ cmpN (ab a) (ab b)) = false := by rw [cmpN_lt hle]; rfl
  rw [← plus_lt h hle]
  have HL := Lib.hid (Nat.le_of_lt hle)
  clear h hle
  go_enter Tryz.func98, Tryz.ntmps98
  go_wp2_with fail
  obtain ⟨W, hW⟩ : ∃ W : World, W = (((w.alloc (.cells #[.bool (sn (a)), .slice A (ln (ab (a))) (ln (ab (a)))] 28)).alloc (.cells #[.bool (sn (b)), .slice B (ln (ab (b))) (ln (ab (b)))] 28)).alloc (.cells #[.bool false, .slice none 0 0] 28)) := ⟨_, rfl⟩
  have s0_0 : W.cell? ⟨w.heap.size, 0, none⟩ = some (.bool (sn (a))) := by subst hW; go_simp
  have s0_1 : W.cell? ⟨w.heap.size, 1, none⟩ = some (.slice A (ln (ab (a))) (ln (ab (a)))) := by subst hW; go_simp
  have s1_0 : W.cell? ⟨w.heap.size + 1, 0, none⟩ = some (.bool (sn (b))) := by subst hW; go_simp
  have s1_1 : W.cell? ⟨w.heap.size + 1, 1, none⟩ = some (.slice B (ln (ab (b))) (ln (ab (b)))) := by subst hW; go_simp
  have r0 : W.cell? ⟨w.heap.size + 1 + 1, 0, none⟩ = some (.bool false) := by subst hW; go_simp
  have f0 : W.frozen? ⟨w.heap.size + 1 + 1, 0, none⟩ = false := by subst hW; go_simp
  have r1 : W.cell? ⟨w.heap.size + 1 + 1, 1, none⟩ = some (.slice none 0 0) := by subst hW; go_simp
  have f1 : W.frozen? ⟨w.heap.size + 1 + 1, 1, none⟩ = false := by subst hW; go_simp
  have HW : Below w.heap.size w W := by subst hW; exact ((((Below.refl w.heap.size w).alloc (Nat.le_refl _) _).alloc (by simp) _).alloc (by simp; omega) _)
  have l0 : w.heap.size < W.heap.size := by subst hW; simp <;> omega
  have l1 : w.heap.size + 1 < W.heap.size := by subst hW; simp <;> omega
  have l2 : w.heap.size + 1 + 1 < W.heap.size := by subst hW; simp
  have n0 : w.heap.size ≠ w.heap.size + 1 + 1 := by omega
  have n1 : w.heap.size + 1 ≠ w.heap.size + 1 + 1 := by omega
  replace hx := hx.to HW
  replace hy := hy.to HW
  rw [← hW]
  clear hW
  replace HW := Lib.hid HW
  refine (cmp_any (ab a) (ab b) A B _ (by exact hx) (by exact hy) (by omega)).mono ?_
  rintro e w1 ⟨rfl, hb1⟩
  replace s0_0 := keepc hb1 s0_0 l0
  replace s0_1 := keepc hb1 s0_1 l0
  replace s1_0 := keepc hb1 s1_0 l1
  replace s1_1 := keepc hb1 s1_1 l1
  replace r0 := keepc hb1 r0 l2
  replace f0 := keepf hb1 f0 l2
  replace r1 := keepc hb1 r1 l2
  replace f1 := keepf hb1 f1 l2
  replace l0 := Nat.lt_of_lt_of_le l0 hb1.size
  replace l1 := Nat.lt_of_lt_of_le l1 hb1.size
  replace l2 := Nat.lt_of_lt_of_le l2 hb1.size
  replace hx := hx.to hb1
  replace hy := hy.to hb1
  replace HW := Lib.hid (hstep HW hb1)
  clear hb1
  go_wp2_with fail
  go_region_held3 (fun w' => w'.cell? ⟨w.heap.size, 1, none⟩ = some (.slice A (ln (ab (a))) (ln (ab (a)))) ∧ w'.cell? ⟨w.heap.size + 1, 0, none⟩ = some (.bool (sn (b))) ∧ w'.cell? ⟨w.heap.size + 1, 1, none⟩ = some (.slice B (ln (ab (b))) (ln (ab (b))))) (first | with_reducible exact ⟨s0_1, s1_0, s1_1⟩ | with_reducible exact ⟨(keeps (keeps s0_1 n0) n0), (keeps (keeps s1_0 n1) n1), (keeps (keeps s1_1 n1) n1)⟩ | exact ⟨s0_1, s1_0, s1_1⟩) (first
    | (go_at_call 161; refine (sub_any (ab b) (ab a) B A _ (by exact hy) (by exact hx) (by omega) HL.out).mono ?_; rintro e w2 ⟨A2, rfl, h2, hb2⟩; have hb2 := undrew hb2; replace s0_0 := keepc hb2 s0_0 l0; replace s0_1 := keepc hb2 s0_1 l0; replace s1_0 := keepc hb2 s1_0 l1; replace s1_1 := keepc hb2 s1_1 l1; replace r0 := keepc hb2 r0 l2; replace f0 := keepf hb2 f0 l2; replace r1 := keepc hb2 r1 l2; replace f1 := keepf hb2 f1 l2; replace l0 := Nat.lt_of_lt_of_le l0 hb2.size; replace l1 := Nat.lt_of_lt_of_le l1 hb2.size; replace l2 := Nat.lt_of_lt_of_le l2 hb2.size; replace hx := hx.to hb2; replace hy := hy.to hb2; replace HW := Lib.hid (hstep HW hb2); clear hb2)
    | (go_at_call 123; refine (wholeOf_any (sn b) (ab b - ab a) A2 _ (by exact h2)).mono ?_; rintro e w3 ⟨A3, rfl, h3, hb3⟩; replace s0_0 := keepc hb3 s0_0 l0; replace s0_1 := keepc hb3 s0_1 l0; replace s1_0 := keepc hb3 s1_0 l1; replace s1_1 := keepc hb3 s1_1 l1; replace r0 := keepc hb3 r0 l2; replace f0 := keepf hb3 f0 l2; replace r1 := keepc hb3 r1 l2; replace f1 := keepf hb3 f1 l2; replace l0 := Nat.lt_of_lt_of_le l0 hb3.size; replace l1 := Nat.lt_of_lt_of_le l1 hb3.size; replace l2 := Nat.lt_of_lt_of_le l2 hb3.size; replace hx := hx.to hb3; replace hy := hy.to hb3; replace h2 := h2.to hb3; replace HW := Lib.hid (hstep HW hb3); clear hb3))
  go_wp2_with fail
  exact bodyPost_ret (v := .agg #[.bool (sn (zi (sn b) (ab b - ab a))), .slice A3 (ln (ab (zi (sn b) (ab b - ab a)))) (ln (ab (zi (sn b) (ab b - ab a))))]) (by simp [results, Tryz.results98, go_sem, r0, r1, f0, f1]) rfl (retWhole_fin HW h3 (by omega) r0)

/-- 'x.plus(y)'. -/
theorem plus_any (a b : Int) (A B : Option Addr) (w : World) (hx : Nat32 w A (ab a)) (hy : Nat32 w B (ab b)) (hbx : ln (ab a) ≤ 1099511627776) (hby : ln (ab b) ≤ 1099511627776) :
    Calls Tryz.prog 98 #[.agg #[.bool (sn (a)), .slice A (ln (ab (a))) (ln (ab (a)))], .agg #[.bool (sn (b)), .slice B (ln (ab (b))) (ln (ab (b)))]] w (RetWhole w (a + b)) := by
  by_cases h : sn a = sn b
  · exact plus_same_any a b A B w hx hy hbx hby h
  · rcases Nat.lt_or_ge (ab a) (ab b) with h2 | h2
    · exact plus_lt_any a b A B w hx hy hbx hby h h2
    · exact plus_ge_any a b A B w hx hy hbx hby h h2

theorem times_val (a b : Int) : zi (sn a != sn b) (ab a * ab b) = a * b := by
  have h1 : (a : Int) = zi (sn a) (ab a) := (zi_self a).symm
  have h2 : (b : Int) = zi (sn b) (ab b) := (zi_self b).symm
  conv => rhs; rw [h1, h2]
  unfold zi
  cases sn a <;> cases sn b <;> simp [Int.neg_mul, Int.mul_neg]
theorem scaled_val (a : Int) (n : Nat) : zi (sn a) (ab a * n) = a * (n : Int) := by
  have h1 : (a : Int) = zi (sn a) (ab a) := (zi_self a).symm
  conv => rhs; rw [h1]
  unfold zi
  cases sn a <;> simp [Int.neg_mul]

set_option maxHeartbeats 4000000 in
theorem times_any (a b : Int) (A B : Option Addr) (w : World) (hx : Nat32 w A (ab a)) (hy : Nat32 w B (ab b)) (hbx : ln (ab a) ≤ 1099511627776) (hby : ln (ab b) ≤ 1099511627776) :
    Calls Tryz.prog 104 #[.agg #[.bool (sn (a)), .slice A (ln (ab (a))) (ln (ab (a)))], .agg #[.bool (sn (b)), .slice B (ln (ab (b))) (ln (ab (b)))]] w (RetWhole w (a * b)) := by
  rw [← times_val]
  go_enter Tryz.func104, Tryz.ntmps104
  go_wp2_with fail
  obtain ⟨W, hW⟩ : ∃ W : World, W = (((w.alloc (.cells #[.bool (sn (a)), .slice A (ln (ab (a))) (ln (ab (a)))] 28)).alloc (.cells #[.bool (sn (b)), .slice B (ln (ab (b))) (ln (ab (b)))] 28)).alloc (.cells #[.bool false, .slice none 0 0] 28)) := ⟨_, rfl⟩
  have s0_0 : W.cell? ⟨w.heap.size, 0, none⟩ = some (.bool (sn (a))) := by subst hW; go_simp
  have s0_1 : W.cell? ⟨w.heap.size, 1, none⟩ = some (.slice A (ln (ab (a))) (ln (ab (a)))) := by subst hW; go_simp
  have s1_0 : W.cell? ⟨w.heap.size + 1, 0, none⟩ = some (.bool (sn (b))) := by subst hW; go_simp
  have s1_1 : W.cell? ⟨w.heap.size + 1, 1, none⟩ = some (.slice B (ln (ab (b))) (ln (ab (b)))) := by subst hW; go_simp
  have r0 : W.cell? ⟨w.heap.size + 1 + 1, 0, none⟩ = some (.bool false) := by subst hW; go_simp
  have f0 : W.frozen? ⟨w.heap.size + 1 + 1, 0, none⟩ = false := by subst hW; go_simp
  have r1 : W.cell? ⟨w.heap.size + 1 + 1, 1, none⟩ = some (.slice none 0 0) := by subst hW; go_simp
  have f1 : W.frozen? ⟨w.heap.size + 1 + 1, 1, none⟩ = false := by subst hW; go_simp
  have HW : Below w.heap.size w W := by subst hW; exact ((((Below.refl w.heap.size w).alloc (Nat.le_refl _) _).alloc (by simp) _).alloc (by simp; omega) _)
  have l0 : w.heap.size < W.heap.size := by subst hW; simp <;> omega
  have l1 : w.heap.size + 1 < W.heap.size := by subst hW; simp <;> omega
  have l2 : w.heap.size + 1 + 1 < W.heap.size := by subst hW; simp
  have n0 : w.heap.size ≠ w.heap.size + 1 + 1 := by omega
  have n1 : w.heap.size + 1 ≠ w.heap.size + 1 + 1 := by omega
  replace hx := hx.to HW
  replace hy := hy.to HW
  rw [← hW]
  clear hW
  replace HW := Lib.hid HW
  go_region_held3 (fun w' => w'.cell? ⟨w.heap.size, 0, none⟩ = some (.bool (sn (a))) ∧ w'.cell? ⟨w.heap.size, 1, none⟩ = some (.slice A (ln (ab (a))) (ln (ab (a)))) ∧ w'.cell? ⟨w.heap.size + 1, 0, none⟩ = some (.bool (sn (b))) ∧ w'.cell? ⟨w.heap.size + 1, 1, none⟩ = some (.slice B (ln (ab (b))) (ln (ab (b))))) (first | with_reducible exact ⟨s0_0, s0_1, s1_0, s1_1⟩ | with_reducible exact ⟨(keeps (keeps s0_0 n0) n0), (keeps (keeps s0_1 n0) n0), (keeps (keeps s1_0 n1) n1), (keeps (keeps s1_1 n1) n1)⟩ | exact ⟨s0_0, s0_1, s1_0, s1_1⟩) (first
    | (go_at_call 99; refine (mul_any (ab a) (ab b) A B _ (by exact hx) (by exact hy) (by omega) (by omega)).mono ?_; rintro e w1 ⟨A1, rfl, h1, hb1⟩; have hb1 := undrew hb1; replace s0_0 := keepc hb1 s0_0 l0; replace s0_1 := keepc hb1 s0_1 l0; replace s1_0 := keepc hb1 s1_0 l1; replace s1_1 := keepc hb1 s1_1 l1; replace r0 := keepc hb1 r0 l2; replace f0 := keepf hb1 f0 l2; replace r1 := keepc hb1 r1 l2; replace f1 := keepf hb1 f1 l2; replace l0 := Nat.lt_of_lt_of_le l0 hb1.size; replace l1 := Nat.lt_of_lt_of_le l1 hb1.size; replace l2 := Nat.lt_of_lt_of_le l2 hb1.size; replace hx := hx.to hb1; replace hy := hy.to hb1; replace HW := Lib.hid (hstep HW hb1); clear hb1)
    | (go_at_call 123; refine (wholeOf_any (sn a != sn b) (ab a * ab b) A1 _ (by exact h1)).mono ?_; rintro e w2 ⟨A2, rfl, h2, hb2⟩; replace s0_0 := keepc hb2 s0_0 l0; replace s0_1 := keepc hb2 s0_1 l0; replace s1_0 := keepc hb2 s1_0 l1; replace s1_1 := keepc hb2 s1_1 l1; replace r0 := keepc hb2 r0 l2; replace f0 := keepf hb2 f0 l2; replace r1 := keepc hb2 r1 l2; replace f1 := keepf hb2 f1 l2; replace l0 := Nat.lt_of_lt_of_le l0 hb2.size; replace l1 := Nat.lt_of_lt_of_le l1 hb2.size; replace l2 := Nat.lt_of_lt_of_le l2 hb2.size; replace hx := hx.to hb2; replace hy := hy.to hb2; replace h1 := h1.to hb2; replace HW := Lib.hid (hstep HW hb2); clear hb2))
  go_wp2_with fail
  exact bodyPost_ret (v := .agg #[.bool (sn (zi (sn a != sn b) (ab a * ab b))), .slice A2 (ln (ab (zi (sn a != sn b) (ab a * ab b)))) (ln (ab (zi (sn a != sn b) (ab a * ab b))))]) (by simp [results, Tryz.results104, go_sem, r0, r1, f0, f1]) rfl (retWhole_fin HW h2 (by omega) r0)

set_option maxHeartbeats 4000000 in
theorem scaled_any (a : Int) (n : Nat) (A B : Option Addr) (w : World) (hx : Nat32 w A (ab a)) (hy : Nat32 w B n) (hbx : ln (ab a) ≤ 1099511627776) (hby : ln n ≤ 1099511627776) :
    Calls Tryz.prog 97 #[.agg #[.bool (sn (a)), .slice A (ln (ab (a))) (ln (ab (a)))], .slice B (ln n) (ln n)] w (RetWhole w (a * (n : Int))) := by
  rw [← scaled_val]
  go_enter Tryz.func97, Tryz.ntmps97
  go_wp2_with fail
  obtain ⟨W, hW⟩ : ∃ W : World, W = ((w.alloc (.cells #[.bool (sn (a)), .slice A (ln (ab (a))) (ln (ab (a)))] 28)).alloc (.cells #[.bool false, .slice none 0 0] 28)) := ⟨_, rfl⟩
  have s0_0 : W.cell? ⟨w.heap.size, 0, none⟩ = some (.bool (sn (a))) := by subst hW; go_simp
  have s0_1 : W.cell? ⟨w.heap.size, 1, none⟩ = some (.slice A (ln (ab (a))) (ln (ab (a)))) := by subst hW; go_simp
  have r0 : W.cell? ⟨w.heap.size + 1, 0, none⟩ = some (.bool false) := by subst hW; go_simp
  have f0 : W.frozen? ⟨w.heap.size + 1, 0, none⟩ = false := by subst hW; go_simp
  have r1 : W.cell? ⟨w.heap.size + 1, 1, none⟩ = some (.slice none 0 0) := by subst hW; go_simp
  have f1 : W.frozen? ⟨w.heap.size + 1, 1, none⟩ = false := by subst hW; go_simp
  have HW : Below w.heap.size w W := by subst hW; exact (((Below.refl w.heap.size w).alloc (Nat.le_refl _) _).alloc (by simp) _)
  have l0 : w.heap.size < W.heap.size := by subst hW; simp <;> omega
  have l1 : w.heap.size + 1 < W.heap.size := by subst hW; simp
  have n0 : w.heap.size ≠ w.heap.size + 1 := by omega
  replace hx := hx.to HW
  replace hy := hy.to HW
  rw [← hW]
  clear hW
  replace HW := Lib.hid HW
  go_region_held3 (fun w' => w'.cell? ⟨w.heap.size, 0, none⟩ = some (.bool (sn (a))) ∧ w'.cell? ⟨w.heap.size, 1, none⟩ = some (.slice A (ln (ab (a))) (ln (ab (a))))) (first | with_reducible exact ⟨s0_0, s0_1⟩ | with_reducible exact ⟨(keeps (keeps s0_0 n0) n0), (keeps (keeps s0_1 n0) n0)⟩ | exact ⟨s0_0, s0_1⟩) (first
    | (go_at_call 99; refine (mul_any (ab a) n A B _ (by exact hx) (by exact hy) (by omega) (by omega)).mono ?_; rintro e w1 ⟨A1, rfl, h1, hb1⟩; have hb1 := undrew hb1; replace s0_0 := keepc hb1 s0_0 l0; replace s0_1 := keepc hb1 s0_1 l0; replace r0 := keepc hb1 r0 l1; replace f0 := keepf hb1 f0 l1; replace r1 := keepc hb1 r1 l1; replace f1 := keepf hb1 f1 l1; replace l0 := Nat.lt_of_lt_of_le l0 hb1.size; replace l1 := Nat.lt_of_lt_of_le l1 hb1.size; replace hx := hx.to hb1; replace hy := hy.to hb1; replace HW := Lib.hid (hstep HW hb1); clear hb1)
    | (go_at_call 123; refine (wholeOf_any (sn a) (ab a * n) A1 _ (by exact h1)).mono ?_; rintro e w2 ⟨A2, rfl, h2, hb2⟩; replace s0_0 := keepc hb2 s0_0 l0; replace s0_1 := keepc hb2 s0_1 l0; replace r0 := keepc hb2 r0 l1; replace f0 := keepf hb2 f0 l1; replace r1 := keepc hb2 r1 l1; replace f1 := keepf hb2 f1 l1; replace l0 := Nat.lt_of_lt_of_le l0 hb2.size; replace l1 := Nat.lt_of_lt_of_le l1 hb2.size; replace hx := hx.to hb2; replace hy := hy.to hb2; replace h1 := h1.to hb2; replace HW := Lib.hid (hstep HW hb2); clear hb2))
  go_wp2_with fail
  exact bodyPost_ret (v := .agg #[.bool (sn (zi (sn a) (ab a * n))), .slice A2 (ln (ab (zi (sn a) (ab a * n)))) (ln (ab (zi (sn a) (ab a * n))))]) (by simp [results, Tryz.results97, go_sem, r0, r1, f0, f1]) rfl (retWhole_fin HW h2 (by omega) r0)

end Go.Proofs.YtgpmlhpgdalheaaGreat
