/- The reference: IntFloor, Floor. NumFloor: the walk. -/
import Derived.Test.YtgpmlhpgdalheaaGreatRS
import Derived.Test.YtgpmlhpgdalheaaGreatFloorP
import Derived.Test.YtgpmlhpgdalheaaGreatSc
import Derived.Test.YtgpmlhpgdalheaaGreatLawB
import Derived.Test.YtgpmlhpgdalheaaGreatAwakeF
namespace Go.Proofs.YtgpmlhpgdalheaaGreat
open Go.RowKit Pl
set_option linter.unusedVariables false
set_option linter.unusedSimpArgs false

theorem radd_one (q : Nat) (A B : Option Addr) (c : Nat) (w : World) (hx : Nat32 w A q) (hy : Nat32 w B 1) (hb : ln q ≤ 1099511627776) :
    Calls Tryz.prog 147 #[.slice A (ln q) c, .slice B 1 1] w (RetNatC w (q + 1)) := by
  have h := rnatAdd_any q 1 A B c 1 w hx hy (by omega) (by rw [ln_one]; omega)
  rwa [ln_one] at h
theorem rshl_k (x U n : Nat) (k : Int) (hk : k = (n : Int)) (hU : U = 2 ^ n) (A : Option Addr) (c : Nat) (w : World) (hx : Nat32 w A x) (hb : ln x ≤ 1099511627776) (hn : n ≤ 1000) :
    Calls Tryz.prog 118 #[.slice A (ln x) c, .int .i64 k] w (RetNatC w (x * U)) := by
  subst hk; subst hU; exact rshl_any x n A c w hx (by omega) (by omega)
theorem rshl_one (U n : Nat) (k : Int) (hk : k = (n : Int)) (hU : U = 2 ^ n) (A : Option Addr) (w : World) (hx : Nat32 w A 1) (hn : n ≤ 1000) :
    Calls Tryz.prog 118 #[.slice A 1 1, .int .i64 k] w (RetNatC w U) := by
  have h := rshl_k 1 U n k hk hU A 1 w hx (by rw [ln_one]; omega) hn
  rwa [ln_one, Nat.one_mul] at h
/-- A local variable that holds an integer of the reference. -/
def VarWholeC (W : World) (z : Int) (p : Value) (wx : World) : Prop := ∃ g A c, p = .pointer (some ⟨g, 0, none⟩) ∧ wx.cell? ⟨g, 0, none⟩ = some (.bool (sn z)) ∧ wx.cell? ⟨g, 1, none⟩ = some (.slice A (ln (ab z)) c) ∧ wx.frozen? ⟨g, 0, none⟩ = false ∧ wx.frozen? ⟨g, 1, none⟩ = false ∧ Nat32 wx A (ab z) ∧ W.heap.size ≤ g ∧ g < wx.heap.size ∧ Below W.heap.size W wx
theorem varWholeC_set {W wn : World} {z : Int} {g k : Nat} {A : Option Addr} {c : Bool} {v : Value} (K : Below W.heap.size W wn) (a0 : wn.cell? ⟨g, 0, none⟩ = some (.bool c)) (a1 : wn.cell? ⟨g, 1, none⟩ = some v) (f0 : wn.frozen? ⟨g, 0, none⟩ = false) (f1 : wn.frozen? ⟨g, 1, none⟩ = false)
    (h : Nat32 wn A (ab z)) (hg : W.heap.size ≤ g) (hl : g < wn.heap.size) : VarWholeC W z (.pointer (some ⟨g, 0, none⟩)) ((wn.setCell ⟨g, 0, none⟩ (.bool (sn z))).setCell ⟨g, 1, none⟩ (.slice A (ln (ab z)) k)) := by
  have c0 := cell_self (u := .bool (sn z)) a0
  have c1 := keepo (R := g) (j := 0) (u := .bool (sn z)) a1 (by omega)
  exact ⟨g, A, k, rfl, keepo c0 (by omega), cell_self c1, keepof (keepof f0), keepof (keepof f1), (h.setBox a0 (by intro k m e; cases e)).setBox c0 (by intro k m e; cases e), hg, by simpa [World.setCell] using hl, (K.setCell (by exact hg) _).setCell (by exact hg) _⟩
theorem varWholeC_new {W wn : World} {z : Int} {k : Nat} {A : Option Addr} {T : TypeId} (K : Below W.heap.size W wn) (h : Nat32 wn A (ab z)) : VarWholeC W z (.pointer (some ⟨wn.heap.size, 0, none⟩)) (wn.alloc (.cells #[.bool (sn z), .slice A (ln (ab z)) k] T)) :=
  ⟨wn.heap.size, A, k, rfl, by go_simp, by go_simp, by go_simp, by go_simp, h.alloc _, K.size, by simp, K.alloc K.size _⟩

set_option maxHeartbeats 4000000 in
theorem rfloor_up (a : Int) (d : Nat) (A D : Option Addr) (cA cD : Nat) (w : World) (hx : Nat32 w A (ab a)) (hy : Nat32 w D d) (hbx : ln (ab a) ≤ 274877906944) (hby : ln d ≤ 274877906944) (hd0 : d ≠ 0) (h : sn a = true) (hr : ab a % d ≠ 0) :
    Calls Tryz.prog 116 #[.agg #[.bool (sn (a)), .slice A (ln (ab (a))) cA], .slice D (ln d) cD] w (RetWholeC w (a / (d : Int))) := by
  have HX := Lib.hid hbx
  have HY := Lib.hid hby
  have H0 := Lib.hid hd0
  have LQ : Hid (ln (ab a / d) ≤ 1099511627776) := Lib.hid (Nat.le_trans (ln_mono (Nat.div_le_self _ _)) (by omega))
  rw [← floor_up hd0 h hr]
  have HS := Lib.hid h
  have t1 : decide (0 < ln (ab a % d)) = true := by have := ln_pos hr; simpa using this
  have HT := Lib.hid t1
  clear hbx hby hd0 h hr t1
  go_enter Tryz.func116, Tryz.ntmps116
  go_wp2_with fail
  obtain ⟨W, hW⟩ : ∃ W : World, W = ((w.alloc (.cells #[.bool (sn (a)), .slice A (ln (ab (a))) cA] 32)).alloc (.cells #[.bool false, .slice none 0 0] 32)) := ⟨_, rfl⟩
  have s0_0 : W.cell? ⟨w.heap.size, 0, none⟩ = some (.bool (sn (a))) := by subst hW; go_simp
  have s0_1 : W.cell? ⟨w.heap.size, 1, none⟩ = some (.slice A (ln (ab (a))) cA) := by subst hW; go_simp
  have r0 : W.cell? ⟨w.heap.size + 1, 0, none⟩ = some (.bool false) := by subst hW; go_simp
  have f0 : W.frozen? ⟨w.heap.size + 1, 0, none⟩ = false := by subst hW; go_simp
  have r1 : W.cell? ⟨w.heap.size + 1, 1, none⟩ = some (.slice none 0 0) := by subst hW; go_simp
  have f1 : W.frozen? ⟨w.heap.size + 1, 1, none⟩ = false := by subst hW; go_simp
  have HW : Below w.heap.size w W := by subst hW; exact (((Below.refl w.heap.size w).alloc (Nat.le_refl _) _).alloc (by simp) _)
  have l0 : w.heap.size < W.heap.size := by subst hW; simp <;> omega
  have l1 : w.heap.size + 1 < W.heap.size := by subst hW; simp
  have n0 : w.heap.size ≠ w.heap.size + 1 := by omega
  replace hx := hx.to HW
  replace hy := hy.to HW
  rw [← hW]
  clear hW
  replace HW := Lib.hid HW
  refine (rdiv_any (ab a) d A D cA cD _ (by exact hx) (by exact hy) (Nat.le_trans HX.out (by omega)) (Nat.le_trans HY.out (by omega)) H0.out).mono ?_
  rintro e w1 ⟨AQ, cQ, AR, cR, rfl, hq, hr, hb1⟩
  replace s0_0 := keepc hb1 s0_0 l0
  replace s0_1 := keepc hb1 s0_1 l0
  replace r0 := keepc hb1 r0 l1
  replace f0 := keepf hb1 f0 l1
  replace r1 := keepc hb1 r1 l1
  replace f1 := keepf hb1 f1 l1
  replace l0 := Nat.lt_of_lt_of_le l0 hb1.size
  replace l1 := Nat.lt_of_lt_of_le l1 hb1.size
  replace hx := hx.to hb1
  replace hy := hy.to hb1
  replace HW := Lib.hid (hstep HW hb1)
  clear hb1
  have k0 := s0_0
  rw [HS.out] at s0_0
  have t1 := HT.out
  go_wp2_with fail
  replace s0_0 := k0
  refine (radd_one (ab a / d) AQ _ cQ _ (by exact hq.alloc _) (by exact nat1_new _ _) LQ.out).mono ?_
  rintro e w2 ⟨A2, c2, rfl, h2, hb2⟩
  replace hb2 := unalloc hb2
  replace s0_0 := keepc hb2 s0_0 l0
  replace s0_1 := keepc hb2 s0_1 l0
  replace r0 := keepc hb2 r0 l1
  replace f0 := keepf hb2 f0 l1
  replace r1 := keepc hb2 r1 l1
  replace f1 := keepf hb2 f1 l1
  replace l0 := Nat.lt_of_lt_of_le l0 hb2.size
  replace l1 := Nat.lt_of_lt_of_le l1 hb2.size
  replace hx := hx.to hb2
  replace hy := hy.to hb2
  replace hq := hq.to hb2
  replace hr := hr.to hb2
  replace HW := Lib.hid (hstep HW hb2)
  clear hb2
  go_wp2_with fail
  refine (rsigned_any (sn a) (ab a / d + 1) A2 c2 _ (by exact h2)).mono ?_
  rintro e w3 ⟨A3, c3, rfl, h3, hb3⟩
  replace s0_0 := keepc hb3 s0_0 l0
  replace s0_1 := keepc hb3 s0_1 l0
  replace r0 := keepc hb3 r0 l1
  replace f0 := keepf hb3 f0 l1
  replace r1 := keepc hb3 r1 l1
  replace f1 := keepf hb3 f1 l1
  replace l0 := Nat.lt_of_lt_of_le l0 hb3.size
  replace l1 := Nat.lt_of_lt_of_le l1 hb3.size
  replace hx := hx.to hb3
  replace hy := hy.to hb3
  replace hq := hq.to hb3
  replace hr := hr.to hb3
  replace h2 := h2.to hb3
  replace HW := Lib.hid (hstep HW hb3)
  clear hb3
  go_wp2_with fail
  exact bodyPost_ret (v := .agg #[.bool (sn (zi (sn a) (ab a / d + 1))), .slice A3 (ln (ab (zi (sn a) (ab a / d + 1)))) c3]) (by simp [results, Tryz.results116, go_sem, r0, r1, f0, f1]) rfl (retWholeC_fin HW h3 (by omega) r0)

set_option maxHeartbeats 4000000 in
theorem rfloor_pos (a : Int) (d : Nat) (A D : Option Addr) (cA cD : Nat) (w : World) (hx : Nat32 w A (ab a)) (hy : Nat32 w D d) (hbx : ln (ab a) ≤ 274877906944) (hby : ln d ≤ 274877906944) (hd0 : d ≠ 0) (h : sn a = false) :
    Calls Tryz.prog 116 #[.agg #[.bool (sn (a)), .slice A (ln (ab (a))) cA], .slice D (ln d) cD] w (RetWholeC w (a / (d : Int))) := by
  have HX := Lib.hid hbx
  have HY := Lib.hid hby
  have H0 := Lib.hid hd0
  have LQ : Hid (ln (ab a / d) ≤ 1099511627776) := Lib.hid (Nat.le_trans (ln_mono (Nat.div_le_self _ _)) (by omega))
  rw [← floor_at hd0 (.inl h)]
  have HS := Lib.hid h
  clear hbx hby hd0 h
  go_enter Tryz.func116, Tryz.ntmps116
  go_wp2_with fail
  obtain ⟨W, hW⟩ : ∃ W : World, W = ((w.alloc (.cells #[.bool (sn (a)), .slice A (ln (ab (a))) cA] 32)).alloc (.cells #[.bool false, .slice none 0 0] 32)) := ⟨_, rfl⟩
  have s0_0 : W.cell? ⟨w.heap.size, 0, none⟩ = some (.bool (sn (a))) := by subst hW; go_simp
  have s0_1 : W.cell? ⟨w.heap.size, 1, none⟩ = some (.slice A (ln (ab (a))) cA) := by subst hW; go_simp
  have r0 : W.cell? ⟨w.heap.size + 1, 0, none⟩ = some (.bool false) := by subst hW; go_simp
  have f0 : W.frozen? ⟨w.heap.size + 1, 0, none⟩ = false := by subst hW; go_simp
  have r1 : W.cell? ⟨w.heap.size + 1, 1, none⟩ = some (.slice none 0 0) := by subst hW; go_simp
  have f1 : W.frozen? ⟨w.heap.size + 1, 1, none⟩ = false := by subst hW; go_simp
  have HW : Below w.heap.size w W := by subst hW; exact (((Below.refl w.heap.size w).alloc (Nat.le_refl _) _).alloc (by simp) _)
  have l0 : w.heap.size < W.heap.size := by subst hW; simp <;> omega
  have l1 : w.heap.size + 1 < W.heap.size := by subst hW; simp
  have n0 : w.heap.size ≠ w.heap.size + 1 := by omega
  replace hx := hx.to HW
  replace hy := hy.to HW
  rw [← hW]
  clear hW
  replace HW := Lib.hid HW
  refine (rdiv_any (ab a) d A D cA cD _ (by exact hx) (by exact hy) (Nat.le_trans HX.out (by omega)) (Nat.le_trans HY.out (by omega)) H0.out).mono ?_
  rintro e w1 ⟨AQ, cQ, AR, cR, rfl, hq, hr, hb1⟩
  replace s0_0 := keepc hb1 s0_0 l0
  replace s0_1 := keepc hb1 s0_1 l0
  replace r0 := keepc hb1 r0 l1
  replace f0 := keepf hb1 f0 l1
  replace r1 := keepc hb1 r1 l1
  replace f1 := keepf hb1 f1 l1
  replace l0 := Nat.lt_of_lt_of_le l0 hb1.size
  replace l1 := Nat.lt_of_lt_of_le l1 hb1.size
  replace hx := hx.to hb1
  replace hy := hy.to hb1
  replace HW := Lib.hid (hstep HW hb1)
  clear hb1
  have k0 := s0_0
  rw [HS.out] at s0_0
  go_wp2_with fail
  replace s0_0 := k0
  refine (rsigned_any false (ab a / d) AQ cQ _ (by exact hq)).mono ?_
  rintro e w2 ⟨A3, c3, rfl, h3, hb2⟩
  replace s0_0 := keepc hb2 s0_0 l0
  replace s0_1 := keepc hb2 s0_1 l0
  replace r0 := keepc hb2 r0 l1
  replace f0 := keepf hb2 f0 l1
  replace r1 := keepc hb2 r1 l1
  replace f1 := keepf hb2 f1 l1
  replace l0 := Nat.lt_of_lt_of_le l0 hb2.size
  replace l1 := Nat.lt_of_lt_of_le l1 hb2.size
  replace hx := hx.to hb2
  replace hy := hy.to hb2
  replace hq := hq.to hb2
  replace hr := hr.to hb2
  replace HW := Lib.hid (hstep HW hb2)
  clear hb2
  go_wp2_with fail
  rw [HS.out]
  exact bodyPost_ret (v := .agg #[.bool (sn (zi false (ab a / d))), .slice A3 (ln (ab (zi false (ab a / d)))) c3]) (by simp [results, Tryz.results116, go_sem, r0, r1, f0, f1]) rfl (retWholeC_fin HW h3 (by omega) r0)

set_option maxHeartbeats 4000000 in
theorem rfloor_even (a : Int) (d : Nat) (A D : Option Addr) (cA cD : Nat) (w : World) (hx : Nat32 w A (ab a)) (hy : Nat32 w D d) (hbx : ln (ab a) ≤ 274877906944) (hby : ln d ≤ 274877906944) (hd0 : d ≠ 0) (h : sn a = true) (hr : ab a % d = 0) :
    Calls Tryz.prog 116 #[.agg #[.bool (sn (a)), .slice A (ln (ab (a))) cA], .slice D (ln d) cD] w (RetWholeC w (a / (d : Int))) := by
  have HX := Lib.hid hbx
  have HY := Lib.hid hby
  have H0 := Lib.hid hd0
  have LQ : Hid (ln (ab a / d) ≤ 1099511627776) := Lib.hid (Nat.le_trans (ln_mono (Nat.div_le_self _ _)) (by omega))
  rw [← floor_at hd0 (.inr hr)]
  have HS := Lib.hid h
  have t1 : decide (0 < ln (ab a % d)) = false := by rw [hr, ln_zero]; rfl
  have HT := Lib.hid t1
  clear hr t1
  clear hbx hby hd0 h
  go_enter Tryz.func116, Tryz.ntmps116
  go_wp2_with fail
  obtain ⟨W, hW⟩ : ∃ W : World, W = ((w.alloc (.cells #[.bool (sn (a)), .slice A (ln (ab (a))) cA] 32)).alloc (.cells #[.bool false, .slice none 0 0] 32)) := ⟨_, rfl⟩
  have s0_0 : W.cell? ⟨w.heap.size, 0, none⟩ = some (.bool (sn (a))) := by subst hW; go_simp
  have s0_1 : W.cell? ⟨w.heap.size, 1, none⟩ = some (.slice A (ln (ab (a))) cA) := by subst hW; go_simp
  have r0 : W.cell? ⟨w.heap.size + 1, 0, none⟩ = some (.bool false) := by subst hW; go_simp
  have f0 : W.frozen? ⟨w.heap.size + 1, 0, none⟩ = false := by subst hW; go_simp
  have r1 : W.cell? ⟨w.heap.size + 1, 1, none⟩ = some (.slice none 0 0) := by subst hW; go_simp
  have f1 : W.frozen? ⟨w.heap.size + 1, 1, none⟩ = false := by subst hW; go_simp
  have HW : Below w.heap.size w W := by subst hW; exact (((Below.refl w.heap.size w).alloc (Nat.le_refl _) _).alloc (by simp) _)
  have l0 : w.heap.size < W.heap.size := by subst hW; simp <;> omega
  have l1 : w.heap.size + 1 < W.heap.size := by subst hW; simp
  have n0 : w.heap.size ≠ w.heap.size + 1 := by omega
  replace hx := hx.to HW
  replace hy := hy.to HW
  rw [← hW]
  clear hW
  replace HW := Lib.hid HW
  refine (rdiv_any (ab a) d A D cA cD _ (by exact hx) (by exact hy) (Nat.le_trans HX.out (by omega)) (Nat.le_trans HY.out (by omega)) H0.out).mono ?_
  rintro e w1 ⟨AQ, cQ, AR, cR, rfl, hq, hr, hb1⟩
  replace s0_0 := keepc hb1 s0_0 l0
  replace s0_1 := keepc hb1 s0_1 l0
  replace r0 := keepc hb1 r0 l1
  replace f0 := keepf hb1 f0 l1
  replace r1 := keepc hb1 r1 l1
  replace f1 := keepf hb1 f1 l1
  replace l0 := Nat.lt_of_lt_of_le l0 hb1.size
  replace l1 := Nat.lt_of_lt_of_le l1 hb1.size
  replace hx := hx.to hb1
  replace hy := hy.to hb1
  replace HW := Lib.hid (hstep HW hb1)
  clear hb1
  have k0 := s0_0
  rw [HS.out] at s0_0
  have t1 := HT.out
  go_wp2_with fail
  replace s0_0 := k0
  refine (rsigned_any true (ab a / d) AQ cQ _ (by exact hq)).mono ?_
  rintro e w2 ⟨A3, c3, rfl, h3, hb2⟩
  replace s0_0 := keepc hb2 s0_0 l0
  replace s0_1 := keepc hb2 s0_1 l0
  replace r0 := keepc hb2 r0 l1
  replace f0 := keepf hb2 f0 l1
  replace r1 := keepc hb2 r1 l1
  replace f1 := keepf hb2 f1 l1
  replace l0 := Nat.lt_of_lt_of_le l0 hb2.size
  replace l1 := Nat.lt_of_lt_of_le l1 hb2.size
  replace hx := hx.to hb2
  replace hy := hy.to hb2
  replace hq := hq.to hb2
  replace hr := hr.to hb2
  replace HW := Lib.hid (hstep HW hb2)
  clear hb2
  go_wp2_with fail
  rw [HS.out]
  exact bodyPost_ret (v := .agg #[.bool (sn (zi true (ab a / d))), .slice A3 (ln (ab (zi true (ab a / d)))) c3]) (by simp [results, Tryz.results116, go_sem, r0, r1, f0, f1]) rfl (retWholeC_fin HW h3 (by omega) r0)

/-- 'IntFloor'. -/
theorem rfloor_any (a : Int) (d : Nat) (A D : Option Addr) (cA cD : Nat) (w : World) (hx : Nat32 w A (ab a)) (hy : Nat32 w D d) (hbx : ln (ab a) ≤ 274877906944) (hby : ln d ≤ 274877906944) (hd0 : d ≠ 0) :
    Calls Tryz.prog 116 #[.agg #[.bool (sn (a)), .slice A (ln (ab (a))) cA], .slice D (ln d) cD] w (RetWholeC w (a / (d : Int))) := by
  cases h : sn a with
  | false => have := rfloor_pos a d A D cA cD w hx hy hbx hby hd0 h; rwa [h] at this
  | true =>
    by_cases hr : ab a % d = 0
    · have := rfloor_even a d A D cA cD w hx hy hbx hby hd0 h hr; rwa [h] at this
    · have := rfloor_up a d A D cA cD w hx hy hbx hby hd0 h hr; rwa [h] at this
theorem rfloor_eq (q a : Int) (d : Nat) (h0 : q = a / (d : Int)) (A D : Option Addr) (cA cD : Nat) (w : World) (hx : Nat32 w A (ab a)) (hy : Nat32 w D d) (hbx : ln (ab a) ≤ 274877906944) (hby : ln d ≤ 274877906944) (hd0 : d ≠ 0) :
    Calls Tryz.prog 116 #[.agg #[.bool (sn (a)), .slice A (ln (ab (a))) cA], .slice D (ln d) cD] w (RetWholeC w q) := by
  subst h0; exact rfloor_any a d A D cA cD w hx hy hbx hby hd0

set_option maxHeartbeats 4000000 in
theorem rfloorQ_low (x : Cx) (A1 A2 A3 : Option Addr) (cA1 cA2 cA3 : Nat) (w : World) (hx : Num3C w A1 A2 A3 x) (k : Int) (kk : Nat) (h : k < 0) (hk : kk = 0) (hsx : sz 137438953472 x) :
    Calls Tryz.prog 57 #[.agg #[.bool (sn (na x)), .slice A1 (ln (ab (na x))) cA1, .bool (sn (nb x)), .slice A2 (ln (ab (nb x))) cA2, .slice A3 (ln (nd x)) cA3], .int .i64 k] w (RetNumC w (floorQ x kk)) := by
  obtain ⟨hx1, hx2, hx3⟩ := hx
  have HSX := Lib.hid hsx
  have HK : Hid (kk ≤ 1000) := Lib.hid (by omega)
  have HKK : Hid ((0 : Int) = (kk : Int)) := Lib.hid (by omega)
  have t1 : decide (k < 0) = true := decide_eq_true h
  obtain ⟨U, hU⟩ : ∃ U, U = 2 ^ kk := ⟨_, rfl⟩
  obtain ⟨X1, hX1⟩ : ∃ z, z = na x * (U : Int) := ⟨_, rfl⟩
  obtain ⟨X2, hX2⟩ : ∃ z, z = nb x * (U : Int) := ⟨_, rfl⟩
  obtain ⟨F1, hF1⟩ : ∃ z, z = X1 / (nd x : Int) := ⟨_, rfl⟩
  obtain ⟨F2, hF2⟩ : ∃ z, z = X2 / (nd x : Int) := ⟨_, rfl⟩
  rw [show floorQ x kk = fr F1 F2 U by rw [hF1, hF2, hX1, hX2, hU]; rfl]
  have LU : Hid (ln U ≤ 32) := Lib.hid (by rw [hU]; exact ln_two kk HK.out)
  have U0 : Hid (U ≠ 0) := Lib.hid (by rw [hU]; have := two_pos kk; omega)
  have L1 : Hid (ln (ab X1) ≤ 137438953504) := Lib.hid (by rw [hX1]; exact Nat.le_trans (ab_mul_ln hsx.1 (ab_nat_ln LU.out)) (by omega))
  have L2 : Hid (ln (ab X2) ≤ 137438953504) := Lib.hid (by rw [hX2]; exact Nat.le_trans (ab_mul_ln hsx.2.1 (ab_nat_ln LU.out)) (by omega))
  have M1 : Hid (ln (ab F1) ≤ 137438953504) := Lib.hid (by rw [hF1]; exact Nat.le_trans (ln_mono (ab_floor X1 _ (nd_ne0 x))) L1.out)
  have M2 : Hid (ln (ab F2) ≤ 137438953504) := Lib.hid (by rw [hF2]; exact Nat.le_trans (ln_mono (ab_floor X2 _ (nd_ne0 x))) L2.out)
  have VV1 : Hid (zi (sn (na x)) (ab (na x) * U) = X1) := Lib.hid (by rw [hX1]; exact scaled_val _ _)
  have VV2 : Hid (zi (sn (nb x)) (ab (nb x) * U) = X2) := Lib.hid (by rw [hX2]; exact scaled_val _ _)
  have EU := Lib.hid hU
  have G1 := Lib.hid hF1
  have G2 := Lib.hid hF2
  clear hsx hU hX1 hX2 hF1 hF2 hk h
  go_enter Tryz.func57, Tryz.ntmps57
  go_wp2_with fail
  obtain ⟨W, hW⟩ : ∃ W : World, W = ((w.alloc (.cells #[.bool (sn (na x)), .slice A1 (ln (ab (na x))) cA1, .bool (sn (nb x)), .slice A2 (ln (ab (nb x))) cA2, .slice A3 (ln (nd x)) cA3] 34)).alloc (.cells #[.bool false, .slice none 0 0, .bool false, .slice none 0 0, .slice none 0 0] 34)) := ⟨_, rfl⟩
  have s0_0 : W.cell? ⟨w.heap.size, 0, none⟩ = some (.bool (sn (na x))) := by subst hW; go_simp
  have s0_1 : W.cell? ⟨w.heap.size, 1, none⟩ = some (.slice A1 (ln (ab (na x))) cA1) := by subst hW; go_simp
  have s0_2 : W.cell? ⟨w.heap.size, 2, none⟩ = some (.bool (sn (nb x))) := by subst hW; go_simp
  have s0_3 : W.cell? ⟨w.heap.size, 3, none⟩ = some (.slice A2 (ln (ab (nb x))) cA2) := by subst hW; go_simp
  have s0_4 : W.cell? ⟨w.heap.size, 4, none⟩ = some (.slice A3 (ln (nd x)) cA3) := by subst hW; go_simp
  have r0 : W.cell? ⟨w.heap.size + 1, 0, none⟩ = some (.bool false) := by subst hW; go_simp
  have f0 : W.frozen? ⟨w.heap.size + 1, 0, none⟩ = false := by subst hW; go_simp
  have r1 : W.cell? ⟨w.heap.size + 1, 1, none⟩ = some (.slice none 0 0) := by subst hW; go_simp
  have f1 : W.frozen? ⟨w.heap.size + 1, 1, none⟩ = false := by subst hW; go_simp
  have r2 : W.cell? ⟨w.heap.size + 1, 2, none⟩ = some (.bool false) := by subst hW; go_simp
  have f2 : W.frozen? ⟨w.heap.size + 1, 2, none⟩ = false := by subst hW; go_simp
  have r3 : W.cell? ⟨w.heap.size + 1, 3, none⟩ = some (.slice none 0 0) := by subst hW; go_simp
  have f3 : W.frozen? ⟨w.heap.size + 1, 3, none⟩ = false := by subst hW; go_simp
  have r4 : W.cell? ⟨w.heap.size + 1, 4, none⟩ = some (.slice none 0 0) := by subst hW; go_simp
  have f4 : W.frozen? ⟨w.heap.size + 1, 4, none⟩ = false := by subst hW; go_simp
  have HW : Below w.heap.size w W := by subst hW; exact (((Below.refl w.heap.size w).alloc (Nat.le_refl _) _).alloc (by simp) _)
  have l0 : w.heap.size < W.heap.size := by subst hW; simp <;> omega
  have l1 : w.heap.size + 1 < W.heap.size := by subst hW; simp
  have n0 : w.heap.size ≠ w.heap.size + 1 := by omega
  replace hx1 := hx1.to HW
  replace hx2 := hx2.to HW
  replace hx3 := hx3.to HW
  rw [← hW]
  clear hW
  replace HW := Lib.hid HW
  go_upto_region 5 with fail
  go_cut [5] (fun p wx => VarWholeC W (F1) p wx)
  case first =>
    have gB : Hid (Below W.heap.size W W) := Lib.hid (Below.refl _ _)
    go_region_held3 (fun w' => w'.cell? ⟨w.heap.size, 0, none⟩ = some (.bool (sn (na x))) ∧ w'.cell? ⟨w.heap.size, 1, none⟩ = some (.slice A1 (ln (ab (na x))) cA1) ∧ w'.cell? ⟨w.heap.size, 2, none⟩ = some (.bool (sn (nb x))) ∧ w'.cell? ⟨w.heap.size, 3, none⟩ = some (.slice A2 (ln (ab (nb x))) cA2) ∧ w'.cell? ⟨w.heap.size, 4, none⟩ = some (.slice A3 (ln (nd x)) cA3)) (first | with_reducible exact ⟨s0_0, s0_1, s0_2, s0_3, s0_4⟩ | with_reducible exact ⟨(keepa s0_0 l0), (keepa s0_1 l0), (keepa s0_2 l0), (keepa s0_3 l0), (keepa s0_4 l0)⟩ | with_reducible exact ⟨(keeps (keeps s0_0 gn0) gn0), (keeps (keeps s0_1 gn0) gn0), (keeps (keeps s0_2 gn0) gn0), (keeps (keeps s0_3 gn0) gn0), (keeps (keeps s0_4 gn0) gn0)⟩ | exact ⟨s0_0, s0_1, s0_2, s0_3, s0_4⟩ | exact ⟨(keepa s0_0 l0), (keepa s0_1 l0), (keepa s0_2 l0), (keepa s0_3 l0), (keepa s0_4 l0)⟩) (first
      | (go_at_call 118; refine (rshl_k (ab (na x)) U kk 0 HKK.out EU.out A1 cA1 _ (by first | with_reducible exact hx1 | with_reducible exact hx1.alloc _ | exact hx1 | exact hx1.alloc _) (by have := HSX.out; unfold sz at this; omega) HK.out).mono ?_; rintro e w1 ⟨T1, b1, rfl, h1, ha1⟩; have hb1 : Below W.heap.size W w1 := (by first | with_reducible exact ha1 | with_reducible exact undrew ha1 | with_reducible exact unalloc ha1 | with_reducible exact undrewalloc ha1 | with_reducible exact undrew (unalloc ha1)); (try replace ga0 := keepc hb1 ga0 gl); (try replace ga1 := keepc hb1 ga1 gl); (try replace gf0 := keepf hb1 gf0 gl); (try replace gf1 := keepf hb1 gf1 gl); (try replace gl := Nat.lt_of_lt_of_le gl hb1.size); (try (have gx := (by first | with_reducible exact newvar ha1 | with_reducible exact newvard ha1 | with_reducible exact newvare ha1 : NewVar W w1); have ga0 := gx.1; have ga1 := gx.2.1; have gf0 := gx.2.2.1; have gf1 := gx.2.2.2.1; have gl := gx.2.2.2.2; have gge := gB.out.size; have gn0 := Nat.ne_of_lt l0; have gn1 := Nat.ne_of_lt l1; clear gx)); replace gB := Lib.hid (onto gB.out hb1); replace s0_0 := keepc hb1 s0_0 l0; replace s0_1 := keepc hb1 s0_1 l0; replace s0_2 := keepc hb1 s0_2 l0; replace s0_3 := keepc hb1 s0_3 l0; replace s0_4 := keepc hb1 s0_4 l0; replace r0 := keepc hb1 r0 l1; replace f0 := keepf hb1 f0 l1; replace r1 := keepc hb1 r1 l1; replace f1 := keepf hb1 f1 l1; replace r2 := keepc hb1 r2 l1; replace f2 := keepf hb1 f2 l1; replace r3 := keepc hb1 r3 l1; replace f3 := keepf hb1 f3 l1; replace r4 := keepc hb1 r4 l1; replace f4 := keepf hb1 f4 l1; replace l0 := Nat.lt_of_lt_of_le l0 hb1.size; replace l1 := Nat.lt_of_lt_of_le l1 hb1.size; replace hx1 := hx1.to hb1; replace hx2 := hx2.to hb1; replace hx3 := hx3.to hb1; replace HW := Lib.hid (hstep HW hb1); clear hb1; clear ha1)
      | (go_at_call 117; refine (rsigned_z VV1.out T1 b1 _ (by first | with_reducible exact h1 | with_reducible exact h1.alloc _ | exact h1 | exact h1.alloc _)).mono ?_; rintro e w2 ⟨T2, b2, rfl, h2, ha2⟩; have hb2 : Below w1.heap.size w1 w2 := (by first | with_reducible exact ha2 | with_reducible exact undrew ha2 | with_reducible exact unalloc ha2 | with_reducible exact undrewalloc ha2 | with_reducible exact undrew (unalloc ha2)); (try replace ga0 := keepc hb2 ga0 gl); (try replace ga1 := keepc hb2 ga1 gl); (try replace gf0 := keepf hb2 gf0 gl); (try replace gf1 := keepf hb2 gf1 gl); (try replace gl := Nat.lt_of_lt_of_le gl hb2.size); (try (have gx := (by first | with_reducible exact newvar ha2 | with_reducible exact newvard ha2 | with_reducible exact newvare ha2 : NewVar w1 w2); have ga0 := gx.1; have ga1 := gx.2.1; have gf0 := gx.2.2.1; have gf1 := gx.2.2.2.1; have gl := gx.2.2.2.2; have gge := gB.out.size; have gn0 := Nat.ne_of_lt l0; have gn1 := Nat.ne_of_lt l1; clear gx)); replace gB := Lib.hid (onto gB.out hb2); replace s0_0 := keepc hb2 s0_0 l0; replace s0_1 := keepc hb2 s0_1 l0; replace s0_2 := keepc hb2 s0_2 l0; replace s0_3 := keepc hb2 s0_3 l0; replace s0_4 := keepc hb2 s0_4 l0; replace r0 := keepc hb2 r0 l1; replace f0 := keepf hb2 f0 l1; replace r1 := keepc hb2 r1 l1; replace f1 := keepf hb2 f1 l1; replace r2 := keepc hb2 r2 l1; replace f2 := keepf hb2 f2 l1; replace r3 := keepc hb2 r3 l1; replace f3 := keepf hb2 f3 l1; replace r4 := keepc hb2 r4 l1; replace f4 := keepf hb2 f4 l1; replace l0 := Nat.lt_of_lt_of_le l0 hb2.size; replace l1 := Nat.lt_of_lt_of_le l1 hb2.size; replace hx1 := hx1.to hb2; replace hx2 := hx2.to hb2; replace hx3 := hx3.to hb2; replace h1 := h1.to hb2; replace HW := Lib.hid (hstep HW hb2); clear hb2; clear ha2)
      | (go_at_call 116; refine (rfloor_eq F1 X1 (nd x) G1.out T2 A3 b2 cA3 _ (by first | with_reducible exact h2 | with_reducible exact h2.alloc _ | exact h2 | exact h2.alloc _) (by first | with_reducible exact hx3 | with_reducible exact hx3.alloc _ | exact hx3 | exact hx3.alloc _) (Nat.le_trans L1.out (by omega)) (by have := HSX.out; unfold sz at this; omega) (nd_ne0 x)).mono ?_; rintro e w3 ⟨T3, b3, rfl, h3, ha3⟩; have hb3 : Below w2.heap.size w2 w3 := (by first | with_reducible exact ha3 | with_reducible exact undrew ha3 | with_reducible exact unalloc ha3 | with_reducible exact undrewalloc ha3 | with_reducible exact undrew (unalloc ha3)); (try replace ga0 := keepc hb3 ga0 gl); (try replace ga1 := keepc hb3 ga1 gl); (try replace gf0 := keepf hb3 gf0 gl); (try replace gf1 := keepf hb3 gf1 gl); (try replace gl := Nat.lt_of_lt_of_le gl hb3.size); (try (have gx := (by first | with_reducible exact newvar ha3 | with_reducible exact newvard ha3 | with_reducible exact newvare ha3 : NewVar w2 w3); have ga0 := gx.1; have ga1 := gx.2.1; have gf0 := gx.2.2.1; have gf1 := gx.2.2.2.1; have gl := gx.2.2.2.2; have gge := gB.out.size; have gn0 := Nat.ne_of_lt l0; have gn1 := Nat.ne_of_lt l1; clear gx)); replace gB := Lib.hid (onto gB.out hb3); replace s0_0 := keepc hb3 s0_0 l0; replace s0_1 := keepc hb3 s0_1 l0; replace s0_2 := keepc hb3 s0_2 l0; replace s0_3 := keepc hb3 s0_3 l0; replace s0_4 := keepc hb3 s0_4 l0; replace r0 := keepc hb3 r0 l1; replace f0 := keepf hb3 f0 l1; replace r1 := keepc hb3 r1 l1; replace f1 := keepf hb3 f1 l1; replace r2 := keepc hb3 r2 l1; replace f2 := keepf hb3 f2 l1; replace r3 := keepc hb3 r3 l1; replace f3 := keepf hb3 f3 l1; replace r4 := keepc hb3 r4 l1; replace f4 := keepf hb3 f4 l1; replace l0 := Nat.lt_of_lt_of_le l0 hb3.size; replace l1 := Nat.lt_of_lt_of_le l1 hb3.size; replace hx1 := hx1.to hb3; replace hx2 := hx2.to hb3; replace hx3 := hx3.to hb3; replace h1 := h1.to hb3; replace h2 := h2.to hb3; replace HW := Lib.hid (hstep HW hb3); clear hb3; clear ha3))
    all_goals
      go_wp2_with fail
      go_meet
      first | exact varWholeC_set gB.out ga0 ga1 gf0 gf1 h3 gge gl | exact varWholeC_new gB.out h3
  case rest =>
  obtain ⟨g0, V0, cV0, hp0, t0_0, t0_1, u0_0, u0_1, hv0, hg0, l100, hb1⟩ := hcut
  subst hp0
  have n100 : g0 ≠ w.heap.size + 1 := by omega
  obtain ⟨w1, rfl⟩ : ∃ X : World, X = wc := ⟨_, rfl⟩
  replace s0_0 := keepc hb1 s0_0 l0
  replace s0_1 := keepc hb1 s0_1 l0
  replace s0_2 := keepc hb1 s0_2 l0
  replace s0_3 := keepc hb1 s0_3 l0
  replace s0_4 := keepc hb1 s0_4 l0
  replace r0 := keepc hb1 r0 l1
  replace f0 := keepf hb1 f0 l1
  replace r1 := keepc hb1 r1 l1
  replace f1 := keepf hb1 f1 l1
  replace r2 := keepc hb1 r2 l1
  replace f2 := keepf hb1 f2 l1
  replace r3 := keepc hb1 r3 l1
  replace f3 := keepf hb1 f3 l1
  replace r4 := keepc hb1 r4 l1
  replace f4 := keepf hb1 f4 l1
  replace l0 := Nat.lt_of_lt_of_le l0 hb1.size
  replace l1 := Nat.lt_of_lt_of_le l1 hb1.size
  replace hx1 := hx1.to hb1
  replace hx2 := hx2.to hb1
  replace hx3 := hx3.to hb1
  replace HW := Lib.hid (hstep HW hb1)
  clear hb1
  go_upto_region 6 with fail
  go_cut [6] (fun p wx => VarWholeC w1 (F2) p wx)
  case first =>
    have gB : Hid (Below w1.heap.size w1 w1) := Lib.hid (Below.refl _ _)
    go_region_held3 (fun w' => w'.cell? ⟨w.heap.size, 0, none⟩ = some (.bool (sn (na x))) ∧ w'.cell? ⟨w.heap.size, 1, none⟩ = some (.slice A1 (ln (ab (na x))) cA1) ∧ w'.cell? ⟨w.heap.size, 2, none⟩ = some (.bool (sn (nb x))) ∧ w'.cell? ⟨w.heap.size, 3, none⟩ = some (.slice A2 (ln (ab (nb x))) cA2) ∧ w'.cell? ⟨w.heap.size, 4, none⟩ = some (.slice A3 (ln (nd x)) cA3)) (first | with_reducible exact ⟨s0_0, s0_1, s0_2, s0_3, s0_4⟩ | with_reducible exact ⟨(keepa s0_0 l0), (keepa s0_1 l0), (keepa s0_2 l0), (keepa s0_3 l0), (keepa s0_4 l0)⟩ | with_reducible exact ⟨(keeps (keeps s0_0 gn0) gn0), (keeps (keeps s0_1 gn0) gn0), (keeps (keeps s0_2 gn0) gn0), (keeps (keeps s0_3 gn0) gn0), (keeps (keeps s0_4 gn0) gn0)⟩ | exact ⟨s0_0, s0_1, s0_2, s0_3, s0_4⟩ | exact ⟨(keepa s0_0 l0), (keepa s0_1 l0), (keepa s0_2 l0), (keepa s0_3 l0), (keepa s0_4 l0)⟩) (first
      | (go_at_call 118; refine (rshl_k (ab (nb x)) U kk 0 HKK.out EU.out A2 cA2 _ (by first | with_reducible exact hx2 | with_reducible exact hx2.alloc _ | exact hx2 | exact hx2.alloc _) (by have := HSX.out; unfold sz at this; omega) HK.out).mono ?_; rintro e w2 ⟨T2, b2, rfl, h2, ha2⟩; have hb2 : Below w1.heap.size w1 w2 := (by first | with_reducible exact ha2 | with_reducible exact undrew ha2 | with_reducible exact unalloc ha2 | with_reducible exact undrewalloc ha2 | with_reducible exact undrew (unalloc ha2)); (try replace ga0 := keepc hb2 ga0 gl); (try replace ga1 := keepc hb2 ga1 gl); (try replace gf0 := keepf hb2 gf0 gl); (try replace gf1 := keepf hb2 gf1 gl); (try replace gl := Nat.lt_of_lt_of_le gl hb2.size); (try (have gx := (by first | with_reducible exact newvar ha2 | with_reducible exact newvard ha2 | with_reducible exact newvare ha2 : NewVar w1 w2); have ga0 := gx.1; have ga1 := gx.2.1; have gf0 := gx.2.2.1; have gf1 := gx.2.2.2.1; have gl := gx.2.2.2.2; have gge := gB.out.size; have gn0 := Nat.ne_of_lt l0; have gn1 := Nat.ne_of_lt l1; have gn100 := Nat.ne_of_lt l100; clear gx)); replace gB := Lib.hid (onto gB.out hb2); replace s0_0 := keepc hb2 s0_0 l0; replace s0_1 := keepc hb2 s0_1 l0; replace s0_2 := keepc hb2 s0_2 l0; replace s0_3 := keepc hb2 s0_3 l0; replace s0_4 := keepc hb2 s0_4 l0; replace t0_0 := keepc hb2 t0_0 l100; replace t0_1 := keepc hb2 t0_1 l100; replace r0 := keepc hb2 r0 l1; replace f0 := keepf hb2 f0 l1; replace r1 := keepc hb2 r1 l1; replace f1 := keepf hb2 f1 l1; replace r2 := keepc hb2 r2 l1; replace f2 := keepf hb2 f2 l1; replace r3 := keepc hb2 r3 l1; replace f3 := keepf hb2 f3 l1; replace r4 := keepc hb2 r4 l1; replace f4 := keepf hb2 f4 l1; replace l0 := Nat.lt_of_lt_of_le l0 hb2.size; replace l1 := Nat.lt_of_lt_of_le l1 hb2.size; replace l100 := Nat.lt_of_lt_of_le l100 hb2.size; replace hx1 := hx1.to hb2; replace hx2 := hx2.to hb2; replace hx3 := hx3.to hb2; replace hv0 := hv0.to hb2; replace HW := Lib.hid (hstep HW hb2); clear hb2; clear ha2)
      | (go_at_call 117; refine (rsigned_z VV2.out T2 b2 _ (by first | with_reducible exact h2 | with_reducible exact h2.alloc _ | exact h2 | exact h2.alloc _)).mono ?_; rintro e w3 ⟨T3, b3, rfl, h3, ha3⟩; have hb3 : Below w2.heap.size w2 w3 := (by first | with_reducible exact ha3 | with_reducible exact undrew ha3 | with_reducible exact unalloc ha3 | with_reducible exact undrewalloc ha3 | with_reducible exact undrew (unalloc ha3)); (try replace ga0 := keepc hb3 ga0 gl); (try replace ga1 := keepc hb3 ga1 gl); (try replace gf0 := keepf hb3 gf0 gl); (try replace gf1 := keepf hb3 gf1 gl); (try replace gl := Nat.lt_of_lt_of_le gl hb3.size); (try (have gx := (by first | with_reducible exact newvar ha3 | with_reducible exact newvard ha3 | with_reducible exact newvare ha3 : NewVar w2 w3); have ga0 := gx.1; have ga1 := gx.2.1; have gf0 := gx.2.2.1; have gf1 := gx.2.2.2.1; have gl := gx.2.2.2.2; have gge := gB.out.size; have gn0 := Nat.ne_of_lt l0; have gn1 := Nat.ne_of_lt l1; have gn100 := Nat.ne_of_lt l100; clear gx)); replace gB := Lib.hid (onto gB.out hb3); replace s0_0 := keepc hb3 s0_0 l0; replace s0_1 := keepc hb3 s0_1 l0; replace s0_2 := keepc hb3 s0_2 l0; replace s0_3 := keepc hb3 s0_3 l0; replace s0_4 := keepc hb3 s0_4 l0; replace t0_0 := keepc hb3 t0_0 l100; replace t0_1 := keepc hb3 t0_1 l100; replace r0 := keepc hb3 r0 l1; replace f0 := keepf hb3 f0 l1; replace r1 := keepc hb3 r1 l1; replace f1 := keepf hb3 f1 l1; replace r2 := keepc hb3 r2 l1; replace f2 := keepf hb3 f2 l1; replace r3 := keepc hb3 r3 l1; replace f3 := keepf hb3 f3 l1; replace r4 := keepc hb3 r4 l1; replace f4 := keepf hb3 f4 l1; replace l0 := Nat.lt_of_lt_of_le l0 hb3.size; replace l1 := Nat.lt_of_lt_of_le l1 hb3.size; replace l100 := Nat.lt_of_lt_of_le l100 hb3.size; replace hx1 := hx1.to hb3; replace hx2 := hx2.to hb3; replace hx3 := hx3.to hb3; replace hv0 := hv0.to hb3; replace h2 := h2.to hb3; replace HW := Lib.hid (hstep HW hb3); clear hb3; clear ha3)
      | (go_at_call 116; refine (rfloor_eq F2 X2 (nd x) G2.out T3 A3 b3 cA3 _ (by first | with_reducible exact h3 | with_reducible exact h3.alloc _ | exact h3 | exact h3.alloc _) (by first | with_reducible exact hx3 | with_reducible exact hx3.alloc _ | exact hx3 | exact hx3.alloc _) (Nat.le_trans L2.out (by omega)) (by have := HSX.out; unfold sz at this; omega) (nd_ne0 x)).mono ?_; rintro e w4 ⟨T4, b4, rfl, h4, ha4⟩; have hb4 : Below w3.heap.size w3 w4 := (by first | with_reducible exact ha4 | with_reducible exact undrew ha4 | with_reducible exact unalloc ha4 | with_reducible exact undrewalloc ha4 | with_reducible exact undrew (unalloc ha4)); (try replace ga0 := keepc hb4 ga0 gl); (try replace ga1 := keepc hb4 ga1 gl); (try replace gf0 := keepf hb4 gf0 gl); (try replace gf1 := keepf hb4 gf1 gl); (try replace gl := Nat.lt_of_lt_of_le gl hb4.size); (try (have gx := (by first | with_reducible exact newvar ha4 | with_reducible exact newvard ha4 | with_reducible exact newvare ha4 : NewVar w3 w4); have ga0 := gx.1; have ga1 := gx.2.1; have gf0 := gx.2.2.1; have gf1 := gx.2.2.2.1; have gl := gx.2.2.2.2; have gge := gB.out.size; have gn0 := Nat.ne_of_lt l0; have gn1 := Nat.ne_of_lt l1; have gn100 := Nat.ne_of_lt l100; clear gx)); replace gB := Lib.hid (onto gB.out hb4); replace s0_0 := keepc hb4 s0_0 l0; replace s0_1 := keepc hb4 s0_1 l0; replace s0_2 := keepc hb4 s0_2 l0; replace s0_3 := keepc hb4 s0_3 l0; replace s0_4 := keepc hb4 s0_4 l0; replace t0_0 := keepc hb4 t0_0 l100; replace t0_1 := keepc hb4 t0_1 l100; replace r0 := keepc hb4 r0 l1; replace f0 := keepf hb4 f0 l1; replace r1 := keepc hb4 r1 l1; replace f1 := keepf hb4 f1 l1; replace r2 := keepc hb4 r2 l1; replace f2 := keepf hb4 f2 l1; replace r3 := keepc hb4 r3 l1; replace f3 := keepf hb4 f3 l1; replace r4 := keepc hb4 r4 l1; replace f4 := keepf hb4 f4 l1; replace l0 := Nat.lt_of_lt_of_le l0 hb4.size; replace l1 := Nat.lt_of_lt_of_le l1 hb4.size; replace l100 := Nat.lt_of_lt_of_le l100 hb4.size; replace hx1 := hx1.to hb4; replace hx2 := hx2.to hb4; replace hx3 := hx3.to hb4; replace hv0 := hv0.to hb4; replace h2 := h2.to hb4; replace h3 := h3.to hb4; replace HW := Lib.hid (hstep HW hb4); clear hb4; clear ha4))
    all_goals
      go_wp2_with fail
      go_meet
      first | exact varWholeC_set gB.out ga0 ga1 gf0 gf1 h4 gge gl | exact varWholeC_new gB.out h4
  case rest =>
  obtain ⟨g1, V1, cV1, hp1, t1_0, t1_1, u1_0, u1_1, hv1, hg1, l101, hb2⟩ := hcut
  subst hp1
  have n101 : g1 ≠ w.heap.size + 1 := by omega
  obtain ⟨w2, rfl⟩ : ∃ X : World, X = wc := ⟨_, rfl⟩
  replace s0_0 := keepc hb2 s0_0 l0
  replace s0_1 := keepc hb2 s0_1 l0
  replace s0_2 := keepc hb2 s0_2 l0
  replace s0_3 := keepc hb2 s0_3 l0
  replace s0_4 := keepc hb2 s0_4 l0
  replace t0_0 := keepc hb2 t0_0 l100
  replace t0_1 := keepc hb2 t0_1 l100
  replace r0 := keepc hb2 r0 l1
  replace f0 := keepf hb2 f0 l1
  replace r1 := keepc hb2 r1 l1
  replace f1 := keepf hb2 f1 l1
  replace r2 := keepc hb2 r2 l1
  replace f2 := keepf hb2 f2 l1
  replace r3 := keepc hb2 r3 l1
  replace f3 := keepf hb2 f3 l1
  replace r4 := keepc hb2 r4 l1
  replace f4 := keepf hb2 f4 l1
  replace l0 := Nat.lt_of_lt_of_le l0 hb2.size
  replace l1 := Nat.lt_of_lt_of_le l1 hb2.size
  replace l100 := Nat.lt_of_lt_of_le l100 hb2.size
  replace hx1 := hx1.to hb2
  replace hx2 := hx2.to hb2
  replace hx3 := hx3.to hb2
  replace hv0 := hv0.to hb2
  replace HW := Lib.hid (hstep HW hb2)
  clear hb2
  go_wp2_with fail
  go_region_held3 (fun w' => w'.cell? ⟨g0, 0, none⟩ = some (.bool (sn F1)) ∧ w'.cell? ⟨g0, 1, none⟩ = some (.slice V0 (ln (ab F1)) cV0) ∧ w'.cell? ⟨g1, 0, none⟩ = some (.bool (sn F2)) ∧ w'.cell? ⟨g1, 1, none⟩ = some (.slice V1 (ln (ab F2)) cV1)) (first | with_reducible exact ⟨t0_0, t0_1, t1_0, t1_1⟩ | with_reducible exact ⟨(keepd t0_0), (keepd t0_1), (keepd t1_0), (keepd t1_1)⟩ | with_reducible exact ⟨(keepa t0_0 l100), (keepa t0_1 l100), (keepa t1_0 l101), (keepa t1_1 l101)⟩ | with_reducible exact ⟨(keepd (keepa t0_0 l100)), (keepd (keepa t0_1 l100)), (keepd (keepa t1_0 l101)), (keepd (keepa t1_1 l101))⟩ | with_reducible exact ⟨(keepa (keepd t0_0) l100), (keepa (keepd t0_1) l100), (keepa (keepd t1_0) l101), (keepa (keepd t1_1) l101)⟩ | with_reducible exact ⟨(keeps (keeps (keeps (keeps (keeps t0_0 n100) n100) n100) n100) n100), (keeps (keeps (keeps (keeps (keeps t0_1 n100) n100) n100) n100) n100), (keeps (keeps (keeps (keeps (keeps t1_0 n101) n101) n101) n101) n101), (keeps (keeps (keeps (keeps (keeps t1_1 n101) n101) n101) n101) n101)⟩) (first
    | (go_at_call 118; refine (rshl_one U kk 0 HKK.out EU.out _ _ (by exact nat1_new _ _) HK.out).mono ?_; rintro e w3 ⟨AU, cU, rfl, hu, ha⟩; have hb3 : Below w2.heap.size w2 w3 := (by first | with_reducible exact unalloc ha | with_reducible exact undrew (unalloc ha) | with_reducible exact undrewalloc ha | with_reducible exact unalloc (undrew ha) | with_reducible exact undrew ha); replace s0_0 := keepc hb3 s0_0 l0; replace s0_1 := keepc hb3 s0_1 l0; replace s0_2 := keepc hb3 s0_2 l0; replace s0_3 := keepc hb3 s0_3 l0; replace s0_4 := keepc hb3 s0_4 l0; replace t0_0 := keepc hb3 t0_0 l100; replace t0_1 := keepc hb3 t0_1 l100; replace t1_0 := keepc hb3 t1_0 l101; replace t1_1 := keepc hb3 t1_1 l101; replace r0 := keepc hb3 r0 l1; replace f0 := keepf hb3 f0 l1; replace r1 := keepc hb3 r1 l1; replace f1 := keepf hb3 f1 l1; replace r2 := keepc hb3 r2 l1; replace f2 := keepf hb3 f2 l1; replace r3 := keepc hb3 r3 l1; replace f3 := keepf hb3 f3 l1; replace r4 := keepc hb3 r4 l1; replace f4 := keepf hb3 f4 l1; replace l0 := Nat.lt_of_lt_of_le l0 hb3.size; replace l1 := Nat.lt_of_lt_of_le l1 hb3.size; replace l100 := Nat.lt_of_lt_of_le l100 hb3.size; replace l101 := Nat.lt_of_lt_of_le l101 hb3.size; replace hx1 := hx1.to hb3; replace hx2 := hx2.to hb3; replace hx3 := hx3.to hb3; replace hv0 := hv0.to hb3; replace hv1 := hv1.to hb3; replace HW := Lib.hid (hstep HW hb3); clear hb3; clear ha)
    | (go_at_call 100; refine (rmake_any F1 F2 U V0 V1 AU cV0 cV1 cU _ (by exact hv0) (by exact hv1) (by exact hu) (Nat.le_trans M1.out (by omega)) (Nat.le_trans M2.out (by omega)) (Nat.le_trans LU.out (by omega)) U0.out).mono ?_; rintro e w4 ⟨Z1, Z2, Z3, cZ1, cZ2, cZ3, rfl, hz, hb4⟩; replace s0_0 := keepc hb4 s0_0 l0; replace s0_1 := keepc hb4 s0_1 l0; replace s0_2 := keepc hb4 s0_2 l0; replace s0_3 := keepc hb4 s0_3 l0; replace s0_4 := keepc hb4 s0_4 l0; replace t0_0 := keepc hb4 t0_0 l100; replace t0_1 := keepc hb4 t0_1 l100; replace t1_0 := keepc hb4 t1_0 l101; replace t1_1 := keepc hb4 t1_1 l101; replace r0 := keepc hb4 r0 l1; replace f0 := keepf hb4 f0 l1; replace r1 := keepc hb4 r1 l1; replace f1 := keepf hb4 f1 l1; replace r2 := keepc hb4 r2 l1; replace f2 := keepf hb4 f2 l1; replace r3 := keepc hb4 r3 l1; replace f3 := keepf hb4 f3 l1; replace r4 := keepc hb4 r4 l1; replace f4 := keepf hb4 f4 l1; replace l0 := Nat.lt_of_lt_of_le l0 hb4.size; replace l1 := Nat.lt_of_lt_of_le l1 hb4.size; replace l100 := Nat.lt_of_lt_of_le l100 hb4.size; replace l101 := Nat.lt_of_lt_of_le l101 hb4.size; replace hx1 := hx1.to hb4; replace hx2 := hx2.to hb4; replace hx3 := hx3.to hb4; replace hv0 := hv0.to hb4; replace hv1 := hv1.to hb4; replace hu := hu.to hb4; replace HW := Lib.hid (hstep HW hb4); clear hb4))
  go_wp2_with fail
  exact bodyPost_ret (v := .agg #[.bool (sn (na (fr F1 F2 U))), .slice Z1 (ln (ab (na (fr F1 F2 U)))) cZ1, .bool (sn (nb (fr F1 F2 U))), .slice Z2 (ln (ab (nb (fr F1 F2 U)))) cZ2, .slice Z3 (ln (nd (fr F1 F2 U))) cZ3]) (by simp [results, Tryz.results57, go_sem, r0, r1, r2, r3, r4, f0, f1, f2, f3, f4]) rfl (retNumC_fin HW hz (by omega) r0)

set_option maxHeartbeats 4000000 in
theorem rfloorQ_high (x : Cx) (A1 A2 A3 : Option Addr) (cA1 cA2 cA3 : Nat) (w : World) (hx : Num3C w A1 A2 A3 x) (k : Int) (kk : Nat) (h : 1000 < k) (hk : kk = 1000) (hsx : sz 137438953472 x) :
    Calls Tryz.prog 57 #[.agg #[.bool (sn (na x)), .slice A1 (ln (ab (na x))) cA1, .bool (sn (nb x)), .slice A2 (ln (ab (nb x))) cA2, .slice A3 (ln (nd x)) cA3], .int .i64 k] w (RetNumC w (floorQ x kk)) := by
  obtain ⟨hx1, hx2, hx3⟩ := hx
  have HSX := Lib.hid hsx
  have HK : Hid (kk ≤ 1000) := Lib.hid (by omega)
  have HKK : Hid ((1000 : Int) = (kk : Int)) := Lib.hid (by omega)
  have t1 : decide (k < 0) = false := decide_eq_false (by omega)
  have t2 : decide (1000 < k) = true := decide_eq_true h
  obtain ⟨U, hU⟩ : ∃ U, U = 2 ^ kk := ⟨_, rfl⟩
  obtain ⟨X1, hX1⟩ : ∃ z, z = na x * (U : Int) := ⟨_, rfl⟩
  obtain ⟨X2, hX2⟩ : ∃ z, z = nb x * (U : Int) := ⟨_, rfl⟩
  obtain ⟨F1, hF1⟩ : ∃ z, z = X1 / (nd x : Int) := ⟨_, rfl⟩
  obtain ⟨F2, hF2⟩ : ∃ z, z = X2 / (nd x : Int) := ⟨_, rfl⟩
  rw [show floorQ x kk = fr F1 F2 U by rw [hF1, hF2, hX1, hX2, hU]; rfl]
  have LU : Hid (ln U ≤ 32) := Lib.hid (by rw [hU]; exact ln_two kk HK.out)
  have U0 : Hid (U ≠ 0) := Lib.hid (by rw [hU]; have := two_pos kk; omega)
  have L1 : Hid (ln (ab X1) ≤ 137438953504) := Lib.hid (by rw [hX1]; exact Nat.le_trans (ab_mul_ln hsx.1 (ab_nat_ln LU.out)) (by omega))
  have L2 : Hid (ln (ab X2) ≤ 137438953504) := Lib.hid (by rw [hX2]; exact Nat.le_trans (ab_mul_ln hsx.2.1 (ab_nat_ln LU.out)) (by omega))
  have M1 : Hid (ln (ab F1) ≤ 137438953504) := Lib.hid (by rw [hF1]; exact Nat.le_trans (ln_mono (ab_floor X1 _ (nd_ne0 x))) L1.out)
  have M2 : Hid (ln (ab F2) ≤ 137438953504) := Lib.hid (by rw [hF2]; exact Nat.le_trans (ln_mono (ab_floor X2 _ (nd_ne0 x))) L2.out)
  have VV1 : Hid (zi (sn (na x)) (ab (na x) * U) = X1) := Lib.hid (by rw [hX1]; exact scaled_val _ _)
  have VV2 : Hid (zi (sn (nb x)) (ab (nb x) * U) = X2) := Lib.hid (by rw [hX2]; exact scaled_val _ _)
  have EU := Lib.hid hU
  have G1 := Lib.hid hF1
  have G2 := Lib.hid hF2
  clear hsx hU hX1 hX2 hF1 hF2 hk h
  go_enter Tryz.func57, Tryz.ntmps57
  go_wp2_with fail
  obtain ⟨W, hW⟩ : ∃ W : World, W = ((w.alloc (.cells #[.bool (sn (na x)), .slice A1 (ln (ab (na x))) cA1, .bool (sn (nb x)), .slice A2 (ln (ab (nb x))) cA2, .slice A3 (ln (nd x)) cA3] 34)).alloc (.cells #[.bool false, .slice none 0 0, .bool false, .slice none 0 0, .slice none 0 0] 34)) := ⟨_, rfl⟩
  have s0_0 : W.cell? ⟨w.heap.size, 0, none⟩ = some (.bool (sn (na x))) := by subst hW; go_simp
  have s0_1 : W.cell? ⟨w.heap.size, 1, none⟩ = some (.slice A1 (ln (ab (na x))) cA1) := by subst hW; go_simp
  have s0_2 : W.cell? ⟨w.heap.size, 2, none⟩ = some (.bool (sn (nb x))) := by subst hW; go_simp
  have s0_3 : W.cell? ⟨w.heap.size, 3, none⟩ = some (.slice A2 (ln (ab (nb x))) cA2) := by subst hW; go_simp
  have s0_4 : W.cell? ⟨w.heap.size, 4, none⟩ = some (.slice A3 (ln (nd x)) cA3) := by subst hW; go_simp
  have r0 : W.cell? ⟨w.heap.size + 1, 0, none⟩ = some (.bool false) := by subst hW; go_simp
  have f0 : W.frozen? ⟨w.heap.size + 1, 0, none⟩ = false := by subst hW; go_simp
  have r1 : W.cell? ⟨w.heap.size + 1, 1, none⟩ = some (.slice none 0 0) := by subst hW; go_simp
  have f1 : W.frozen? ⟨w.heap.size + 1, 1, none⟩ = false := by subst hW; go_simp
  have r2 : W.cell? ⟨w.heap.size + 1, 2, none⟩ = some (.bool false) := by subst hW; go_simp
  have f2 : W.frozen? ⟨w.heap.size + 1, 2, none⟩ = false := by subst hW; go_simp
  have r3 : W.cell? ⟨w.heap.size + 1, 3, none⟩ = some (.slice none 0 0) := by subst hW; go_simp
  have f3 : W.frozen? ⟨w.heap.size + 1, 3, none⟩ = false := by subst hW; go_simp
  have r4 : W.cell? ⟨w.heap.size + 1, 4, none⟩ = some (.slice none 0 0) := by subst hW; go_simp
  have f4 : W.frozen? ⟨w.heap.size + 1, 4, none⟩ = false := by subst hW; go_simp
  have HW : Below w.heap.size w W := by subst hW; exact (((Below.refl w.heap.size w).alloc (Nat.le_refl _) _).alloc (by simp) _)
  have l0 : w.heap.size < W.heap.size := by subst hW; simp <;> omega
  have l1 : w.heap.size + 1 < W.heap.size := by subst hW; simp
  have n0 : w.heap.size ≠ w.heap.size + 1 := by omega
  replace hx1 := hx1.to HW
  replace hx2 := hx2.to HW
  replace hx3 := hx3.to HW
  rw [← hW]
  clear hW
  replace HW := Lib.hid HW
  go_upto_region 5 with fail
  go_cut [5] (fun p wx => VarWholeC W (F1) p wx)
  case first =>
    have gB : Hid (Below W.heap.size W W) := Lib.hid (Below.refl _ _)
    go_region_held3 (fun w' => w'.cell? ⟨w.heap.size, 0, none⟩ = some (.bool (sn (na x))) ∧ w'.cell? ⟨w.heap.size, 1, none⟩ = some (.slice A1 (ln (ab (na x))) cA1) ∧ w'.cell? ⟨w.heap.size, 2, none⟩ = some (.bool (sn (nb x))) ∧ w'.cell? ⟨w.heap.size, 3, none⟩ = some (.slice A2 (ln (ab (nb x))) cA2) ∧ w'.cell? ⟨w.heap.size, 4, none⟩ = some (.slice A3 (ln (nd x)) cA3)) (first | with_reducible exact ⟨s0_0, s0_1, s0_2, s0_3, s0_4⟩ | with_reducible exact ⟨(keepa s0_0 l0), (keepa s0_1 l0), (keepa s0_2 l0), (keepa s0_3 l0), (keepa s0_4 l0)⟩ | with_reducible exact ⟨(keeps (keeps s0_0 gn0) gn0), (keeps (keeps s0_1 gn0) gn0), (keeps (keeps s0_2 gn0) gn0), (keeps (keeps s0_3 gn0) gn0), (keeps (keeps s0_4 gn0) gn0)⟩ | exact ⟨s0_0, s0_1, s0_2, s0_3, s0_4⟩ | exact ⟨(keepa s0_0 l0), (keepa s0_1 l0), (keepa s0_2 l0), (keepa s0_3 l0), (keepa s0_4 l0)⟩) (first
      | (go_at_call 118; refine (rshl_k (ab (na x)) U kk 1000 HKK.out EU.out A1 cA1 _ (by first | with_reducible exact hx1 | with_reducible exact hx1.alloc _ | exact hx1 | exact hx1.alloc _) (by have := HSX.out; unfold sz at this; omega) HK.out).mono ?_; rintro e w1 ⟨T1, b1, rfl, h1, ha1⟩; have hb1 : Below W.heap.size W w1 := (by first | with_reducible exact ha1 | with_reducible exact undrew ha1 | with_reducible exact unalloc ha1 | with_reducible exact undrewalloc ha1 | with_reducible exact undrew (unalloc ha1)); (try replace ga0 := keepc hb1 ga0 gl); (try replace ga1 := keepc hb1 ga1 gl); (try replace gf0 := keepf hb1 gf0 gl); (try replace gf1 := keepf hb1 gf1 gl); (try replace gl := Nat.lt_of_lt_of_le gl hb1.size); (try (have gx := (by first | with_reducible exact newvar ha1 | with_reducible exact newvard ha1 | with_reducible exact newvare ha1 : NewVar W w1); have ga0 := gx.1; have ga1 := gx.2.1; have gf0 := gx.2.2.1; have gf1 := gx.2.2.2.1; have gl := gx.2.2.2.2; have gge := gB.out.size; have gn0 := Nat.ne_of_lt l0; have gn1 := Nat.ne_of_lt l1; clear gx)); replace gB := Lib.hid (onto gB.out hb1); replace s0_0 := keepc hb1 s0_0 l0; replace s0_1 := keepc hb1 s0_1 l0; replace s0_2 := keepc hb1 s0_2 l0; replace s0_3 := keepc hb1 s0_3 l0; replace s0_4 := keepc hb1 s0_4 l0; replace r0 := keepc hb1 r0 l1; replace f0 := keepf hb1 f0 l1; replace r1 := keepc hb1 r1 l1; replace f1 := keepf hb1 f1 l1; replace r2 := keepc hb1 r2 l1; replace f2 := keepf hb1 f2 l1; replace r3 := keepc hb1 r3 l1; replace f3 := keepf hb1 f3 l1; replace r4 := keepc hb1 r4 l1; replace f4 := keepf hb1 f4 l1; replace l0 := Nat.lt_of_lt_of_le l0 hb1.size; replace l1 := Nat.lt_of_lt_of_le l1 hb1.size; replace hx1 := hx1.to hb1; replace hx2 := hx2.to hb1; replace hx3 := hx3.to hb1; replace HW := Lib.hid (hstep HW hb1); clear hb1; clear ha1)
      | (go_at_call 117; refine (rsigned_z VV1.out T1 b1 _ (by first | with_reducible exact h1 | with_reducible exact h1.alloc _ | exact h1 | exact h1.alloc _)).mono ?_; rintro e w2 ⟨T2, b2, rfl, h2, ha2⟩; have hb2 : Below w1.heap.size w1 w2 := (by first | with_reducible exact ha2 | with_reducible exact undrew ha2 | with_reducible exact unalloc ha2 | with_reducible exact undrewalloc ha2 | with_reducible exact undrew (unalloc ha2)); (try replace ga0 := keepc hb2 ga0 gl); (try replace ga1 := keepc hb2 ga1 gl); (try replace gf0 := keepf hb2 gf0 gl); (try replace gf1 := keepf hb2 gf1 gl); (try replace gl := Nat.lt_of_lt_of_le gl hb2.size); (try (have gx := (by first | with_reducible exact newvar ha2 | with_reducible exact newvard ha2 | with_reducible exact newvare ha2 : NewVar w1 w2); have ga0 := gx.1; have ga1 := gx.2.1; have gf0 := gx.2.2.1; have gf1 := gx.2.2.2.1; have gl := gx.2.2.2.2; have gge := gB.out.size; have gn0 := Nat.ne_of_lt l0; have gn1 := Nat.ne_of_lt l1; clear gx)); replace gB := Lib.hid (onto gB.out hb2); replace s0_0 := keepc hb2 s0_0 l0; replace s0_1 := keepc hb2 s0_1 l0; replace s0_2 := keepc hb2 s0_2 l0; replace s0_3 := keepc hb2 s0_3 l0; replace s0_4 := keepc hb2 s0_4 l0; replace r0 := keepc hb2 r0 l1; replace f0 := keepf hb2 f0 l1; replace r1 := keepc hb2 r1 l1; replace f1 := keepf hb2 f1 l1; replace r2 := keepc hb2 r2 l1; replace f2 := keepf hb2 f2 l1; replace r3 := keepc hb2 r3 l1; replace f3 := keepf hb2 f3 l1; replace r4 := keepc hb2 r4 l1; replace f4 := keepf hb2 f4 l1; replace l0 := Nat.lt_of_lt_of_le l0 hb2.size; replace l1 := Nat.lt_of_lt_of_le l1 hb2.size; replace hx1 := hx1.to hb2; replace hx2 := hx2.to hb2; replace hx3 := hx3.to hb2; replace h1 := h1.to hb2; replace HW := Lib.hid (hstep HW hb2); clear hb2; clear ha2)
      | (go_at_call 116; refine (rfloor_eq F1 X1 (nd x) G1.out T2 A3 b2 cA3 _ (by first | with_reducible exact h2 | with_reducible exact h2.alloc _ | exact h2 | exact h2.alloc _) (by first | with_reducible exact hx3 | with_reducible exact hx3.alloc _ | exact hx3 | exact hx3.alloc _) (Nat.le_trans L1.out (by omega)) (by have := HSX.out; unfold sz at this; omega) (nd_ne0 x)).mono ?_; rintro e w3 ⟨T3, b3, rfl, h3, ha3⟩; have hb3 : Below w2.heap.size w2 w3 := (by first | with_reducible exact ha3 | with_reducible exact undrew ha3 | with_reducible exact unalloc ha3 | with_reducible exact undrewalloc ha3 | with_reducible exact undrew (unalloc ha3)); (try replace ga0 := keepc hb3 ga0 gl); (try replace ga1 := keepc hb3 ga1 gl); (try replace gf0 := keepf hb3 gf0 gl); (try replace gf1 := keepf hb3 gf1 gl); (try replace gl := Nat.lt_of_lt_of_le gl hb3.size); (try (have gx := (by first | with_reducible exact newvar ha3 | with_reducible exact newvard ha3 | with_reducible exact newvare ha3 : NewVar w2 w3); have ga0 := gx.1; have ga1 := gx.2.1; have gf0 := gx.2.2.1; have gf1 := gx.2.2.2.1; have gl := gx.2.2.2.2; have gge := gB.out.size; have gn0 := Nat.ne_of_lt l0; have gn1 := Nat.ne_of_lt l1; clear gx)); replace gB := Lib.hid (onto gB.out hb3); replace s0_0 := keepc hb3 s0_0 l0; replace s0_1 := keepc hb3 s0_1 l0; replace s0_2 := keepc hb3 s0_2 l0; replace s0_3 := keepc hb3 s0_3 l0; replace s0_4 := keepc hb3 s0_4 l0; replace r0 := keepc hb3 r0 l1; replace f0 := keepf hb3 f0 l1; replace r1 := keepc hb3 r1 l1; replace f1 := keepf hb3 f1 l1; replace r2 := keepc hb3 r2 l1; replace f2 := keepf hb3 f2 l1; replace r3 := keepc hb3 r3 l1; replace f3 := keepf hb3 f3 l1; replace r4 := keepc hb3 r4 l1; replace f4 := keepf hb3 f4 l1; replace l0 := Nat.lt_of_lt_of_le l0 hb3.size; replace l1 := Nat.lt_of_lt_of_le l1 hb3.size; replace hx1 := hx1.to hb3; replace hx2 := hx2.to hb3; replace hx3 := hx3.to hb3; replace h1 := h1.to hb3; replace h2 := h2.to hb3; replace HW := Lib.hid (hstep HW hb3); clear hb3; clear ha3))
    all_goals
      go_wp2_with fail
      go_meet
      first | exact varWholeC_set gB.out ga0 ga1 gf0 gf1 h3 gge gl | exact varWholeC_new gB.out h3
  case rest =>
  obtain ⟨g0, V0, cV0, hp0, t0_0, t0_1, u0_0, u0_1, hv0, hg0, l100, hb1⟩ := hcut
  subst hp0
  have n100 : g0 ≠ w.heap.size + 1 := by omega
  obtain ⟨w1, rfl⟩ : ∃ X : World, X = wc := ⟨_, rfl⟩
  replace s0_0 := keepc hb1 s0_0 l0
  replace s0_1 := keepc hb1 s0_1 l0
  replace s0_2 := keepc hb1 s0_2 l0
  replace s0_3 := keepc hb1 s0_3 l0
  replace s0_4 := keepc hb1 s0_4 l0
  replace r0 := keepc hb1 r0 l1
  replace f0 := keepf hb1 f0 l1
  replace r1 := keepc hb1 r1 l1
  replace f1 := keepf hb1 f1 l1
  replace r2 := keepc hb1 r2 l1
  replace f2 := keepf hb1 f2 l1
  replace r3 := keepc hb1 r3 l1
  replace f3 := keepf hb1 f3 l1
  replace r4 := keepc hb1 r4 l1
  replace f4 := keepf hb1 f4 l1
  replace l0 := Nat.lt_of_lt_of_le l0 hb1.size
  replace l1 := Nat.lt_of_lt_of_le l1 hb1.size
  replace hx1 := hx1.to hb1
  replace hx2 := hx2.to hb1
  replace hx3 := hx3.to hb1
  replace HW := Lib.hid (hstep HW hb1)
  clear hb1
  go_upto_region 6 with fail
  go_cut [6] (fun p wx => VarWholeC w1 (F2) p wx)
  case first =>
    have gB : Hid (Below w1.heap.size w1 w1) := Lib.hid (Below.refl _ _)
    go_region_held3 (fun w' => w'.cell? ⟨w.heap.size, 0, none⟩ = some (.bool (sn (na x))) ∧ w'.cell? ⟨w.heap.size, 1, none⟩ = some (.slice A1 (ln (ab (na x))) cA1) ∧ w'.cell? ⟨w.heap.size, 2, none⟩ = some (.bool (sn (nb x))) ∧ w'.cell? ⟨w.heap.size, 3, none⟩ = some (.slice A2 (ln (ab (nb x))) cA2) ∧ w'.cell? ⟨w.heap.size, 4, none⟩ = some (.slice A3 (ln (nd x)) cA3)) (first | with_reducible exact ⟨s0_0, s0_1, s0_2, s0_3, s0_4⟩ | with_reducible exact ⟨(keepa s0_0 l0), (keepa s0_1 l0), (keepa s0_2 l0), (keepa s0_3 l0), (keepa s0_4 l0)⟩ | with_reducible exact ⟨(keeps (keeps s0_0 gn0) gn0), (keeps (keeps s0_1 gn0) gn0), (keeps (keeps s0_2 gn0) gn0), (keeps (keeps s0_3 gn0) gn0), (keeps (keeps s0_4 gn0) gn0)⟩ | exact ⟨s0_0, s0_1, s0_2, s0_3, s0_4⟩ | exact ⟨(keepa s0_0 l0), (keepa s0_1 l0), (keepa s0_2 l0), (keepa s0_3 l0), (keepa s0_4 l0)⟩) (first
      | (go_at_call 118; refine (rshl_k (ab (nb x)) U kk 1000 HKK.out EU.out A2 cA2 _ (by first | with_reducible exact hx2 | with_reducible exact hx2.alloc _ | exact hx2 | exact hx2.alloc _) (by have := HSX.out; unfold sz at this; omega) HK.out).mono ?_; rintro e w2 ⟨T2, b2, rfl, h2, ha2⟩; have hb2 : Below w1.heap.size w1 w2 := (by first | with_reducible exact ha2 | with_reducible exact undrew ha2 | with_reducible exact unalloc ha2 | with_reducible exact undrewalloc ha2 | with_reducible exact undrew (unalloc ha2)); (try replace ga0 := keepc hb2 ga0 gl); (try replace ga1 := keepc hb2 ga1 gl); (try replace gf0 := keepf hb2 gf0 gl); (try replace gf1 := keepf hb2 gf1 gl); (try replace gl := Nat.lt_of_lt_of_le gl hb2.size); (try (have gx := (by first | with_reducible exact newvar ha2 | with_reducible exact newvard ha2 | with_reducible exact newvare ha2 : NewVar w1 w2); have ga0 := gx.1; have ga1 := gx.2.1; have gf0 := gx.2.2.1; have gf1 := gx.2.2.2.1; have gl := gx.2.2.2.2; have gge := gB.out.size; have gn0 := Nat.ne_of_lt l0; have gn1 := Nat.ne_of_lt l1; have gn100 := Nat.ne_of_lt l100; clear gx)); replace gB := Lib.hid (onto gB.out hb2); replace s0_0 := keepc hb2 s0_0 l0; replace s0_1 := keepc hb2 s0_1 l0; replace s0_2 := keepc hb2 s0_2 l0; replace s0_3 := keepc hb2 s0_3 l0; replace s0_4 := keepc hb2 s0_4 l0; replace t0_0 := keepc hb2 t0_0 l100; replace t0_1 := keepc hb2 t0_1 l100; replace r0 := keepc hb2 r0 l1; replace f0 := keepf hb2 f0 l1; replace r1 := keepc hb2 r1 l1; replace f1 := keepf hb2 f1 l1; replace r2 := keepc hb2 r2 l1; replace f2 := keepf hb2 f2 l1; replace r3 := keepc hb2 r3 l1; replace f3 := keepf hb2 f3 l1; replace r4 := keepc hb2 r4 l1; replace f4 := keepf hb2 f4 l1; replace l0 := Nat.lt_of_lt_of_le l0 hb2.size; replace l1 := Nat.lt_of_lt_of_le l1 hb2.size; replace l100 := Nat.lt_of_lt_of_le l100 hb2.size; replace hx1 := hx1.to hb2; replace hx2 := hx2.to hb2; replace hx3 := hx3.to hb2; replace hv0 := hv0.to hb2; replace HW := Lib.hid (hstep HW hb2); clear hb2; clear ha2)
      | (go_at_call 117; refine (rsigned_z VV2.out T2 b2 _ (by first | with_reducible exact h2 | with_reducible exact h2.alloc _ | exact h2 | exact h2.alloc _)).mono ?_; rintro e w3 ⟨T3, b3, rfl, h3, ha3⟩; have hb3 : Below w2.heap.size w2 w3 := (by first | with_reducible exact ha3 | with_reducible exact undrew ha3 | with_reducible exact unalloc ha3 | with_reducible exact undrewalloc ha3 | with_reducible exact undrew (unalloc ha3)); (try replace ga0 := keepc hb3 ga0 gl); (try replace ga1 := keepc hb3 ga1 gl); (try replace gf0 := keepf hb3 gf0 gl); (try replace gf1 := keepf hb3 gf1 gl); (try replace gl := Nat.lt_of_lt_of_le gl hb3.size); (try (have gx := (by first | with_reducible exact newvar ha3 | with_reducible exact newvard ha3 | with_reducible exact newvare ha3 : NewVar w2 w3); have ga0 := gx.1; have ga1 := gx.2.1; have gf0 := gx.2.2.1; have gf1 := gx.2.2.2.1; have gl := gx.2.2.2.2; have gge := gB.out.size; have gn0 := Nat.ne_of_lt l0; have gn1 := Nat.ne_of_lt l1; have gn100 := Nat.ne_of_lt l100; clear gx)); replace gB := Lib.hid (onto gB.out hb3); replace s0_0 := keepc hb3 s0_0 l0; replace s0_1 := keepc hb3 s0_1 l0; replace s0_2 := keepc hb3 s0_2 l0; replace s0_3 := keepc hb3 s0_3 l0; replace s0_4 := keepc hb3 s0_4 l0; replace t0_0 := keepc hb3 t0_0 l100; replace t0_1 := keepc hb3 t0_1 l100; replace r0 := keepc hb3 r0 l1; replace f0 := keepf hb3 f0 l1; replace r1 := keepc hb3 r1 l1; replace f1 := keepf hb3 f1 l1; replace r2 := keepc hb3 r2 l1; replace f2 := keepf hb3 f2 l1; replace r3 := keepc hb3 r3 l1; replace f3 := keepf hb3 f3 l1; replace r4 := keepc hb3 r4 l1; replace f4 := keepf hb3 f4 l1; replace l0 := Nat.lt_of_lt_of_le l0 hb3.size; replace l1 := Nat.lt_of_lt_of_le l1 hb3.size; replace l100 := Nat.lt_of_lt_of_le l100 hb3.size; replace hx1 := hx1.to hb3; replace hx2 := hx2.to hb3; replace hx3 := hx3.to hb3; replace hv0 := hv0.to hb3; replace h2 := h2.to hb3; replace HW := Lib.hid (hstep HW hb3); clear hb3; clear ha3)
      | (go_at_call 116; refine (rfloor_eq F2 X2 (nd x) G2.out T3 A3 b3 cA3 _ (by first | with_reducible exact h3 | with_reducible exact h3.alloc _ | exact h3 | exact h3.alloc _) (by first | with_reducible exact hx3 | with_reducible exact hx3.alloc _ | exact hx3 | exact hx3.alloc _) (Nat.le_trans L2.out (by omega)) (by have := HSX.out; unfold sz at this; omega) (nd_ne0 x)).mono ?_; rintro e w4 ⟨T4, b4, rfl, h4, ha4⟩; have hb4 : Below w3.heap.size w3 w4 := (by first | with_reducible exact ha4 | with_reducible exact undrew ha4 | with_reducible exact unalloc ha4 | with_reducible exact undrewalloc ha4 | with_reducible exact undrew (unalloc ha4)); (try replace ga0 := keepc hb4 ga0 gl); (try replace ga1 := keepc hb4 ga1 gl); (try replace gf0 := keepf hb4 gf0 gl); (try replace gf1 := keepf hb4 gf1 gl); (try replace gl := Nat.lt_of_lt_of_le gl hb4.size); (try (have gx := (by first | with_reducible exact newvar ha4 | with_reducible exact newvard ha4 | with_reducible exact newvare ha4 : NewVar w3 w4); have ga0 := gx.1; have ga1 := gx.2.1; have gf0 := gx.2.2.1; have gf1 := gx.2.2.2.1; have gl := gx.2.2.2.2; have gge := gB.out.size; have gn0 := Nat.ne_of_lt l0; have gn1 := Nat.ne_of_lt l1; have gn100 := Nat.ne_of_lt l100; clear gx)); replace gB := Lib.hid (onto gB.out hb4); replace s0_0 := keepc hb4 s0_0 l0; replace s0_1 := keepc hb4 s0_1 l0; replace s0_2 := keepc hb4 s0_2 l0; replace s0_3 := keepc hb4 s0_3 l0; replace s0_4 := keepc hb4 s0_4 l0; replace t0_0 := keepc hb4 t0_0 l100; replace t0_1 := keepc hb4 t0_1 l100; replace r0 := keepc hb4 r0 l1; replace f0 := keepf hb4 f0 l1; replace r1 := keepc hb4 r1 l1; replace f1 := keepf hb4 f1 l1; replace r2 := keepc hb4 r2 l1; replace f2 := keepf hb4 f2 l1; replace r3 := keepc hb4 r3 l1; replace f3 := keepf hb4 f3 l1; replace r4 := keepc hb4 r4 l1; replace f4 := keepf hb4 f4 l1; replace l0 := Nat.lt_of_lt_of_le l0 hb4.size; replace l1 := Nat.lt_of_lt_of_le l1 hb4.size; replace l100 := Nat.lt_of_lt_of_le l100 hb4.size; replace hx1 := hx1.to hb4; replace hx2 := hx2.to hb4; replace hx3 := hx3.to hb4; replace hv0 := hv0.to hb4; replace h2 := h2.to hb4; replace h3 := h3.to hb4; replace HW := Lib.hid (hstep HW hb4); clear hb4; clear ha4))
    all_goals
      go_wp2_with fail
      go_meet
      first | exact varWholeC_set gB.out ga0 ga1 gf0 gf1 h4 gge gl | exact varWholeC_new gB.out h4
  case rest =>
  obtain ⟨g1, V1, cV1, hp1, t1_0, t1_1, u1_0, u1_1, hv1, hg1, l101, hb2⟩ := hcut
  subst hp1
  have n101 : g1 ≠ w.heap.size + 1 := by omega
  obtain ⟨w2, rfl⟩ : ∃ X : World, X = wc := ⟨_, rfl⟩
  replace s0_0 := keepc hb2 s0_0 l0
  replace s0_1 := keepc hb2 s0_1 l0
  replace s0_2 := keepc hb2 s0_2 l0
  replace s0_3 := keepc hb2 s0_3 l0
  replace s0_4 := keepc hb2 s0_4 l0
  replace t0_0 := keepc hb2 t0_0 l100
  replace t0_1 := keepc hb2 t0_1 l100
  replace r0 := keepc hb2 r0 l1
  replace f0 := keepf hb2 f0 l1
  replace r1 := keepc hb2 r1 l1
  replace f1 := keepf hb2 f1 l1
  replace r2 := keepc hb2 r2 l1
  replace f2 := keepf hb2 f2 l1
  replace r3 := keepc hb2 r3 l1
  replace f3 := keepf hb2 f3 l1
  replace r4 := keepc hb2 r4 l1
  replace f4 := keepf hb2 f4 l1
  replace l0 := Nat.lt_of_lt_of_le l0 hb2.size
  replace l1 := Nat.lt_of_lt_of_le l1 hb2.size
  replace l100 := Nat.lt_of_lt_of_le l100 hb2.size
  replace hx1 := hx1.to hb2
  replace hx2 := hx2.to hb2
  replace hx3 := hx3.to hb2
  replace hv0 := hv0.to hb2
  replace HW := Lib.hid (hstep HW hb2)
  clear hb2
  go_wp2_with fail
  go_region_held3 (fun w' => w'.cell? ⟨g0, 0, none⟩ = some (.bool (sn F1)) ∧ w'.cell? ⟨g0, 1, none⟩ = some (.slice V0 (ln (ab F1)) cV0) ∧ w'.cell? ⟨g1, 0, none⟩ = some (.bool (sn F2)) ∧ w'.cell? ⟨g1, 1, none⟩ = some (.slice V1 (ln (ab F2)) cV1)) (first | with_reducible exact ⟨t0_0, t0_1, t1_0, t1_1⟩ | with_reducible exact ⟨(keepd t0_0), (keepd t0_1), (keepd t1_0), (keepd t1_1)⟩ | with_reducible exact ⟨(keepa t0_0 l100), (keepa t0_1 l100), (keepa t1_0 l101), (keepa t1_1 l101)⟩ | with_reducible exact ⟨(keepd (keepa t0_0 l100)), (keepd (keepa t0_1 l100)), (keepd (keepa t1_0 l101)), (keepd (keepa t1_1 l101))⟩ | with_reducible exact ⟨(keepa (keepd t0_0) l100), (keepa (keepd t0_1) l100), (keepa (keepd t1_0) l101), (keepa (keepd t1_1) l101)⟩ | with_reducible exact ⟨(keeps (keeps (keeps (keeps (keeps t0_0 n100) n100) n100) n100) n100), (keeps (keeps (keeps (keeps (keeps t0_1 n100) n100) n100) n100) n100), (keeps (keeps (keeps (keeps (keeps t1_0 n101) n101) n101) n101) n101), (keeps (keeps (keeps (keeps (keeps t1_1 n101) n101) n101) n101) n101)⟩) (first
    | (go_at_call 118; refine (rshl_one U kk 1000 HKK.out EU.out _ _ (by exact nat1_new _ _) HK.out).mono ?_; rintro e w3 ⟨AU, cU, rfl, hu, ha⟩; have hb3 : Below w2.heap.size w2 w3 := (by first | with_reducible exact unalloc ha | with_reducible exact undrew (unalloc ha) | with_reducible exact undrewalloc ha | with_reducible exact unalloc (undrew ha) | with_reducible exact undrew ha); replace s0_0 := keepc hb3 s0_0 l0; replace s0_1 := keepc hb3 s0_1 l0; replace s0_2 := keepc hb3 s0_2 l0; replace s0_3 := keepc hb3 s0_3 l0; replace s0_4 := keepc hb3 s0_4 l0; replace t0_0 := keepc hb3 t0_0 l100; replace t0_1 := keepc hb3 t0_1 l100; replace t1_0 := keepc hb3 t1_0 l101; replace t1_1 := keepc hb3 t1_1 l101; replace r0 := keepc hb3 r0 l1; replace f0 := keepf hb3 f0 l1; replace r1 := keepc hb3 r1 l1; replace f1 := keepf hb3 f1 l1; replace r2 := keepc hb3 r2 l1; replace f2 := keepf hb3 f2 l1; replace r3 := keepc hb3 r3 l1; replace f3 := keepf hb3 f3 l1; replace r4 := keepc hb3 r4 l1; replace f4 := keepf hb3 f4 l1; replace l0 := Nat.lt_of_lt_of_le l0 hb3.size; replace l1 := Nat.lt_of_lt_of_le l1 hb3.size; replace l100 := Nat.lt_of_lt_of_le l100 hb3.size; replace l101 := Nat.lt_of_lt_of_le l101 hb3.size; replace hx1 := hx1.to hb3; replace hx2 := hx2.to hb3; replace hx3 := hx3.to hb3; replace hv0 := hv0.to hb3; replace hv1 := hv1.to hb3; replace HW := Lib.hid (hstep HW hb3); clear hb3; clear ha)
    | (go_at_call 100; refine (rmake_any F1 F2 U V0 V1 AU cV0 cV1 cU _ (by exact hv0) (by exact hv1) (by exact hu) (Nat.le_trans M1.out (by omega)) (Nat.le_trans M2.out (by omega)) (Nat.le_trans LU.out (by omega)) U0.out).mono ?_; rintro e w4 ⟨Z1, Z2, Z3, cZ1, cZ2, cZ3, rfl, hz, hb4⟩; replace s0_0 := keepc hb4 s0_0 l0; replace s0_1 := keepc hb4 s0_1 l0; replace s0_2 := keepc hb4 s0_2 l0; replace s0_3 := keepc hb4 s0_3 l0; replace s0_4 := keepc hb4 s0_4 l0; replace t0_0 := keepc hb4 t0_0 l100; replace t0_1 := keepc hb4 t0_1 l100; replace t1_0 := keepc hb4 t1_0 l101; replace t1_1 := keepc hb4 t1_1 l101; replace r0 := keepc hb4 r0 l1; replace f0 := keepf hb4 f0 l1; replace r1 := keepc hb4 r1 l1; replace f1 := keepf hb4 f1 l1; replace r2 := keepc hb4 r2 l1; replace f2 := keepf hb4 f2 l1; replace r3 := keepc hb4 r3 l1; replace f3 := keepf hb4 f3 l1; replace r4 := keepc hb4 r4 l1; replace f4 := keepf hb4 f4 l1; replace l0 := Nat.lt_of_lt_of_le l0 hb4.size; replace l1 := Nat.lt_of_lt_of_le l1 hb4.size; replace l100 := Nat.lt_of_lt_of_le l100 hb4.size; replace l101 := Nat.lt_of_lt_of_le l101 hb4.size; replace hx1 := hx1.to hb4; replace hx2 := hx2.to hb4; replace hx3 := hx3.to hb4; replace hv0 := hv0.to hb4; replace hv1 := hv1.to hb4; replace hu := hu.to hb4; replace HW := Lib.hid (hstep HW hb4); clear hb4))
  go_wp2_with fail
  exact bodyPost_ret (v := .agg #[.bool (sn (na (fr F1 F2 U))), .slice Z1 (ln (ab (na (fr F1 F2 U)))) cZ1, .bool (sn (nb (fr F1 F2 U))), .slice Z2 (ln (ab (nb (fr F1 F2 U)))) cZ2, .slice Z3 (ln (nd (fr F1 F2 U))) cZ3]) (by simp [results, Tryz.results57, go_sem, r0, r1, r2, r3, r4, f0, f1, f2, f3, f4]) rfl (retNumC_fin HW hz (by omega) r0)

set_option maxHeartbeats 4000000 in
theorem rfloorQ_mid (x : Cx) (A1 A2 A3 : Option Addr) (cA1 cA2 cA3 : Nat) (w : World) (hx : Num3C w A1 A2 A3 x) (k : Int) (kk : Nat) (h : ¬ k < 0) (h2 : ¬ 1000 < k) (hk : k = (kk : Int)) (hsx : sz 137438953472 x) :
    Calls Tryz.prog 57 #[.agg #[.bool (sn (na x)), .slice A1 (ln (ab (na x))) cA1, .bool (sn (nb x)), .slice A2 (ln (ab (nb x))) cA2, .slice A3 (ln (nd x)) cA3], .int .i64 k] w (RetNumC w (floorQ x kk)) := by
  obtain ⟨hx1, hx2, hx3⟩ := hx
  have HSX := Lib.hid hsx
  have HK : Hid (kk ≤ 1000) := Lib.hid (by omega)
  have HKK : Hid ((k : Int) = (kk : Int)) := Lib.hid (by omega)
  have t1 : decide (k < 0) = false := decide_eq_false h
  have t2 : decide (1000 < k) = false := decide_eq_false h2
  obtain ⟨U, hU⟩ : ∃ U, U = 2 ^ kk := ⟨_, rfl⟩
  obtain ⟨X1, hX1⟩ : ∃ z, z = na x * (U : Int) := ⟨_, rfl⟩
  obtain ⟨X2, hX2⟩ : ∃ z, z = nb x * (U : Int) := ⟨_, rfl⟩
  obtain ⟨F1, hF1⟩ : ∃ z, z = X1 / (nd x : Int) := ⟨_, rfl⟩
  obtain ⟨F2, hF2⟩ : ∃ z, z = X2 / (nd x : Int) := ⟨_, rfl⟩
  rw [show floorQ x kk = fr F1 F2 U by rw [hF1, hF2, hX1, hX2, hU]; rfl]
  have LU : Hid (ln U ≤ 32) := Lib.hid (by rw [hU]; exact ln_two kk HK.out)
  have U0 : Hid (U ≠ 0) := Lib.hid (by rw [hU]; have := two_pos kk; omega)
  have L1 : Hid (ln (ab X1) ≤ 137438953504) := Lib.hid (by rw [hX1]; exact Nat.le_trans (ab_mul_ln hsx.1 (ab_nat_ln LU.out)) (by omega))
  have L2 : Hid (ln (ab X2) ≤ 137438953504) := Lib.hid (by rw [hX2]; exact Nat.le_trans (ab_mul_ln hsx.2.1 (ab_nat_ln LU.out)) (by omega))
  have M1 : Hid (ln (ab F1) ≤ 137438953504) := Lib.hid (by rw [hF1]; exact Nat.le_trans (ln_mono (ab_floor X1 _ (nd_ne0 x))) L1.out)
  have M2 : Hid (ln (ab F2) ≤ 137438953504) := Lib.hid (by rw [hF2]; exact Nat.le_trans (ln_mono (ab_floor X2 _ (nd_ne0 x))) L2.out)
  have VV1 : Hid (zi (sn (na x)) (ab (na x) * U) = X1) := Lib.hid (by rw [hX1]; exact scaled_val _ _)
  have VV2 : Hid (zi (sn (nb x)) (ab (nb x) * U) = X2) := Lib.hid (by rw [hX2]; exact scaled_val _ _)
  have EU := Lib.hid hU
  have G1 := Lib.hid hF1
  have G2 := Lib.hid hF2
  clear hsx hU hX1 hX2 hF1 hF2 hk h h2
  go_enter Tryz.func57, Tryz.ntmps57
  go_wp2_with fail
  obtain ⟨W, hW⟩ : ∃ W : World, W = ((w.alloc (.cells #[.bool (sn (na x)), .slice A1 (ln (ab (na x))) cA1, .bool (sn (nb x)), .slice A2 (ln (ab (nb x))) cA2, .slice A3 (ln (nd x)) cA3] 34)).alloc (.cells #[.bool false, .slice none 0 0, .bool false, .slice none 0 0, .slice none 0 0] 34)) := ⟨_, rfl⟩
  have s0_0 : W.cell? ⟨w.heap.size, 0, none⟩ = some (.bool (sn (na x))) := by subst hW; go_simp
  have s0_1 : W.cell? ⟨w.heap.size, 1, none⟩ = some (.slice A1 (ln (ab (na x))) cA1) := by subst hW; go_simp
  have s0_2 : W.cell? ⟨w.heap.size, 2, none⟩ = some (.bool (sn (nb x))) := by subst hW; go_simp
  have s0_3 : W.cell? ⟨w.heap.size, 3, none⟩ = some (.slice A2 (ln (ab (nb x))) cA2) := by subst hW; go_simp
  have s0_4 : W.cell? ⟨w.heap.size, 4, none⟩ = some (.slice A3 (ln (nd x)) cA3) := by subst hW; go_simp
  have r0 : W.cell? ⟨w.heap.size + 1, 0, none⟩ = some (.bool false) := by subst hW; go_simp
  have f0 : W.frozen? ⟨w.heap.size + 1, 0, none⟩ = false := by subst hW; go_simp
  have r1 : W.cell? ⟨w.heap.size + 1, 1, none⟩ = some (.slice none 0 0) := by subst hW; go_simp
  have f1 : W.frozen? ⟨w.heap.size + 1, 1, none⟩ = false := by subst hW; go_simp
  have r2 : W.cell? ⟨w.heap.size + 1, 2, none⟩ = some (.bool false) := by subst hW; go_simp
  have f2 : W.frozen? ⟨w.heap.size + 1, 2, none⟩ = false := by subst hW; go_simp
  have r3 : W.cell? ⟨w.heap.size + 1, 3, none⟩ = some (.slice none 0 0) := by subst hW; go_simp
  have f3 : W.frozen? ⟨w.heap.size + 1, 3, none⟩ = false := by subst hW; go_simp
  have r4 : W.cell? ⟨w.heap.size + 1, 4, none⟩ = some (.slice none 0 0) := by subst hW; go_simp
  have f4 : W.frozen? ⟨w.heap.size + 1, 4, none⟩ = false := by subst hW; go_simp
  have HW : Below w.heap.size w W := by subst hW; exact (((Below.refl w.heap.size w).alloc (Nat.le_refl _) _).alloc (by simp) _)
  have l0 : w.heap.size < W.heap.size := by subst hW; simp <;> omega
  have l1 : w.heap.size + 1 < W.heap.size := by subst hW; simp
  have n0 : w.heap.size ≠ w.heap.size + 1 := by omega
  replace hx1 := hx1.to HW
  replace hx2 := hx2.to HW
  replace hx3 := hx3.to HW
  rw [← hW]
  clear hW
  replace HW := Lib.hid HW
  go_upto_region 5 with fail
  go_cut [5] (fun p wx => VarWholeC W (F1) p wx)
  case first =>
    have gB : Hid (Below W.heap.size W W) := Lib.hid (Below.refl _ _)
    go_region_held3 (fun w' => w'.cell? ⟨w.heap.size, 0, none⟩ = some (.bool (sn (na x))) ∧ w'.cell? ⟨w.heap.size, 1, none⟩ = some (.slice A1 (ln (ab (na x))) cA1) ∧ w'.cell? ⟨w.heap.size, 2, none⟩ = some (.bool (sn (nb x))) ∧ w'.cell? ⟨w.heap.size, 3, none⟩ = some (.slice A2 (ln (ab (nb x))) cA2) ∧ w'.cell? ⟨w.heap.size, 4, none⟩ = some (.slice A3 (ln (nd x)) cA3)) (first | with_reducible exact ⟨s0_0, s0_1, s0_2, s0_3, s0_4⟩ | with_reducible exact ⟨(keepa s0_0 l0), (keepa s0_1 l0), (keepa s0_2 l0), (keepa s0_3 l0), (keepa s0_4 l0)⟩ | with_reducible exact ⟨(keeps (keeps s0_0 gn0) gn0), (keeps (keeps s0_1 gn0) gn0), (keeps (keeps s0_2 gn0) gn0), (keeps (keeps s0_3 gn0) gn0), (keeps (keeps s0_4 gn0) gn0)⟩ | exact ⟨s0_0, s0_1, s0_2, s0_3, s0_4⟩ | exact ⟨(keepa s0_0 l0), (keepa s0_1 l0), (keepa s0_2 l0), (keepa s0_3 l0), (keepa s0_4 l0)⟩) (first
      | (go_at_call 118; refine (rshl_k (ab (na x)) U kk k HKK.out EU.out A1 cA1 _ (by first | with_reducible exact hx1 | with_reducible exact hx1.alloc _ | exact hx1 | exact hx1.alloc _) (by have := HSX.out; unfold sz at this; omega) HK.out).mono ?_; rintro e w1 ⟨T1, b1, rfl, h1, ha1⟩; have hb1 : Below W.heap.size W w1 := (by first | with_reducible exact ha1 | with_reducible exact undrew ha1 | with_reducible exact unalloc ha1 | with_reducible exact undrewalloc ha1 | with_reducible exact undrew (unalloc ha1)); (try replace ga0 := keepc hb1 ga0 gl); (try replace ga1 := keepc hb1 ga1 gl); (try replace gf0 := keepf hb1 gf0 gl); (try replace gf1 := keepf hb1 gf1 gl); (try replace gl := Nat.lt_of_lt_of_le gl hb1.size); (try (have gx := (by first | with_reducible exact newvar ha1 | with_reducible exact newvard ha1 | with_reducible exact newvare ha1 : NewVar W w1); have ga0 := gx.1; have ga1 := gx.2.1; have gf0 := gx.2.2.1; have gf1 := gx.2.2.2.1; have gl := gx.2.2.2.2; have gge := gB.out.size; have gn0 := Nat.ne_of_lt l0; have gn1 := Nat.ne_of_lt l1; clear gx)); replace gB := Lib.hid (onto gB.out hb1); replace s0_0 := keepc hb1 s0_0 l0; replace s0_1 := keepc hb1 s0_1 l0; replace s0_2 := keepc hb1 s0_2 l0; replace s0_3 := keepc hb1 s0_3 l0; replace s0_4 := keepc hb1 s0_4 l0; replace r0 := keepc hb1 r0 l1; replace f0 := keepf hb1 f0 l1; replace r1 := keepc hb1 r1 l1; replace f1 := keepf hb1 f1 l1; replace r2 := keepc hb1 r2 l1; replace f2 := keepf hb1 f2 l1; replace r3 := keepc hb1 r3 l1; replace f3 := keepf hb1 f3 l1; replace r4 := keepc hb1 r4 l1; replace f4 := keepf hb1 f4 l1; replace l0 := Nat.lt_of_lt_of_le l0 hb1.size; replace l1 := Nat.lt_of_lt_of_le l1 hb1.size; replace hx1 := hx1.to hb1; replace hx2 := hx2.to hb1; replace hx3 := hx3.to hb1; replace HW := Lib.hid (hstep HW hb1); clear hb1; clear ha1)
      | (go_at_call 117; refine (rsigned_z VV1.out T1 b1 _ (by first | with_reducible exact h1 | with_reducible exact h1.alloc _ | exact h1 | exact h1.alloc _)).mono ?_; rintro e w2 ⟨T2, b2, rfl, h2, ha2⟩; have hb2 : Below w1.heap.size w1 w2 := (by first | with_reducible exact ha2 | with_reducible exact undrew ha2 | with_reducible exact unalloc ha2 | with_reducible exact undrewalloc ha2 | with_reducible exact undrew (unalloc ha2)); (try replace ga0 := keepc hb2 ga0 gl); (try replace ga1 := keepc hb2 ga1 gl); (try replace gf0 := keepf hb2 gf0 gl); (try replace gf1 := keepf hb2 gf1 gl); (try replace gl := Nat.lt_of_lt_of_le gl hb2.size); (try (have gx := (by first | with_reducible exact newvar ha2 | with_reducible exact newvard ha2 | with_reducible exact newvare ha2 : NewVar w1 w2); have ga0 := gx.1; have ga1 := gx.2.1; have gf0 := gx.2.2.1; have gf1 := gx.2.2.2.1; have gl := gx.2.2.2.2; have gge := gB.out.size; have gn0 := Nat.ne_of_lt l0; have gn1 := Nat.ne_of_lt l1; clear gx)); replace gB := Lib.hid (onto gB.out hb2); replace s0_0 := keepc hb2 s0_0 l0; replace s0_1 := keepc hb2 s0_1 l0; replace s0_2 := keepc hb2 s0_2 l0; replace s0_3 := keepc hb2 s0_3 l0; replace s0_4 := keepc hb2 s0_4 l0; replace r0 := keepc hb2 r0 l1; replace f0 := keepf hb2 f0 l1; replace r1 := keepc hb2 r1 l1; replace f1 := keepf hb2 f1 l1; replace r2 := keepc hb2 r2 l1; replace f2 := keepf hb2 f2 l1; replace r3 := keepc hb2 r3 l1; replace f3 := keepf hb2 f3 l1; replace r4 := keepc hb2 r4 l1; replace f4 := keepf hb2 f4 l1; replace l0 := Nat.lt_of_lt_of_le l0 hb2.size; replace l1 := Nat.lt_of_lt_of_le l1 hb2.size; replace hx1 := hx1.to hb2; replace hx2 := hx2.to hb2; replace hx3 := hx3.to hb2; replace h1 := h1.to hb2; replace HW := Lib.hid (hstep HW hb2); clear hb2; clear ha2)
      | (go_at_call 116; refine (rfloor_eq F1 X1 (nd x) G1.out T2 A3 b2 cA3 _ (by first | with_reducible exact h2 | with_reducible exact h2.alloc _ | exact h2 | exact h2.alloc _) (by first | with_reducible exact hx3 | with_reducible exact hx3.alloc _ | exact hx3 | exact hx3.alloc _) (Nat.le_trans L1.out (by omega)) (by have := HSX.out; unfold sz at this; omega) (nd_ne0 x)).mono ?_; rintro e w3 ⟨T3, b3, rfl, h3, ha3⟩; have hb3 : Below w2.heap.size w2 w3 := (by first | with_reducible exact ha3 | with_reducible exact undrew ha3 | with_reducible exact unalloc ha3 | with_reducible exact undrewalloc ha3 | with_reducible exact undrew (unalloc ha3)); (try replace ga0 := keepc hb3 ga0 gl); (try replace ga1 := keepc hb3 ga1 gl); (try replace gf0 := keepf hb3 gf0 gl); (try replace gf1 := keepf hb3 gf1 gl); (try replace gl := Nat.lt_of_lt_of_le gl hb3.size); (try (have gx := (by first | with_reducible exact newvar ha3 | with_reducible exact newvard ha3 | with_reducible exact newvare ha3 : NewVar w2 w3); have ga0 := gx.1; have ga1 := gx.2.1; have gf0 := gx.2.2.1; have gf1 := gx.2.2.2.1; have gl := gx.2.2.2.2; have gge := gB.out.size; have gn0 := Nat.ne_of_lt l0; have gn1 := Nat.ne_of_lt l1; clear gx)); replace gB := Lib.hid (onto gB.out hb3); replace s0_0 := keepc hb3 s0_0 l0; replace s0_1 := keepc hb3 s0_1 l0; replace s0_2 := keepc hb3 s0_2 l0; replace s0_3 := keepc hb3 s0_3 l0; replace s0_4 := keepc hb3 s0_4 l0; replace r0 := keepc hb3 r0 l1; replace f0 := keepf hb3 f0 l1; replace r1 := keepc hb3 r1 l1; replace f1 := keepf hb3 f1 l1; replace r2 := keepc hb3 r2 l1; replace f2 := keepf hb3 f2 l1; replace r3 := keepc hb3 r3 l1; replace f3 := keepf hb3 f3 l1; replace r4 := keepc hb3 r4 l1; replace f4 := keepf hb3 f4 l1; replace l0 := Nat.lt_of_lt_of_le l0 hb3.size; replace l1 := Nat.lt_of_lt_of_le l1 hb3.size; replace hx1 := hx1.to hb3; replace hx2 := hx2.to hb3; replace hx3 := hx3.to hb3; replace h1 := h1.to hb3; replace h2 := h2.to hb3; replace HW := Lib.hid (hstep HW hb3); clear hb3; clear ha3))
    all_goals
      go_wp2_with fail
      go_meet
      first | exact varWholeC_set gB.out ga0 ga1 gf0 gf1 h3 gge gl | exact varWholeC_new gB.out h3
  case rest =>
  obtain ⟨g0, V0, cV0, hp0, t0_0, t0_1, u0_0, u0_1, hv0, hg0, l100, hb1⟩ := hcut
  subst hp0
  have n100 : g0 ≠ w.heap.size + 1 := by omega
  obtain ⟨w1, rfl⟩ : ∃ X : World, X = wc := ⟨_, rfl⟩
  replace s0_0 := keepc hb1 s0_0 l0
  replace s0_1 := keepc hb1 s0_1 l0
  replace s0_2 := keepc hb1 s0_2 l0
  replace s0_3 := keepc hb1 s0_3 l0
  replace s0_4 := keepc hb1 s0_4 l0
  replace r0 := keepc hb1 r0 l1
  replace f0 := keepf hb1 f0 l1
  replace r1 := keepc hb1 r1 l1
  replace f1 := keepf hb1 f1 l1
  replace r2 := keepc hb1 r2 l1
  replace f2 := keepf hb1 f2 l1
  replace r3 := keepc hb1 r3 l1
  replace f3 := keepf hb1 f3 l1
  replace r4 := keepc hb1 r4 l1
  replace f4 := keepf hb1 f4 l1
  replace l0 := Nat.lt_of_lt_of_le l0 hb1.size
  replace l1 := Nat.lt_of_lt_of_le l1 hb1.size
  replace hx1 := hx1.to hb1
  replace hx2 := hx2.to hb1
  replace hx3 := hx3.to hb1
  replace HW := Lib.hid (hstep HW hb1)
  clear hb1
  go_upto_region 6 with fail
  go_cut [6] (fun p wx => VarWholeC w1 (F2) p wx)
  case first =>
    have gB : Hid (Below w1.heap.size w1 w1) := Lib.hid (Below.refl _ _)
    go_region_held3 (fun w' => w'.cell? ⟨w.heap.size, 0, none⟩ = some (.bool (sn (na x))) ∧ w'.cell? ⟨w.heap.size, 1, none⟩ = some (.slice A1 (ln (ab (na x))) cA1) ∧ w'.cell? ⟨w.heap.size, 2, none⟩ = some (.bool (sn (nb x))) ∧ w'.cell? ⟨w.heap.size, 3, none⟩ = some (.slice A2 (ln (ab (nb x))) cA2) ∧ w'.cell? ⟨w.heap.size, 4, none⟩ = some (.slice A3 (ln (nd x)) cA3)) (first | with_reducible exact ⟨s0_0, s0_1, s0_2, s0_3, s0_4⟩ | with_reducible exact ⟨(keepa s0_0 l0), (keepa s0_1 l0), (keepa s0_2 l0), (keepa s0_3 l0), (keepa s0_4 l0)⟩ | with_reducible exact ⟨(keeps (keeps s0_0 gn0) gn0), (keeps (keeps s0_1 gn0) gn0), (keeps (keeps s0_2 gn0) gn0), (keeps (keeps s0_3 gn0) gn0), (keeps (keeps s0_4 gn0) gn0)⟩ | exact ⟨s0_0, s0_1, s0_2, s0_3, s0_4⟩ | exact ⟨(keepa s0_0 l0), (keepa s0_1 l0), (keepa s0_2 l0), (keepa s0_3 l0), (keepa s0_4 l0)⟩) (first
      | (go_at_call 118; refine (rshl_k (ab (nb x)) U kk k HKK.out EU.out A2 cA2 _ (by first | with_reducible exact hx2 | with_reducible exact hx2.alloc _ | exact hx2 | exact hx2.alloc _) (by have := HSX.out; unfold sz at this; omega) HK.out).mono ?_; rintro e w2 ⟨T2, b2, rfl, h2, ha2⟩; have hb2 : Below w1.heap.size w1 w2 := (by first | with_reducible exact ha2 | with_reducible exact undrew ha2 | with_reducible exact unalloc ha2 | with_reducible exact undrewalloc ha2 | with_reducible exact undrew (unalloc ha2)); (try replace ga0 := keepc hb2 ga0 gl); (try replace ga1 := keepc hb2 ga1 gl); (try replace gf0 := keepf hb2 gf0 gl); (try replace gf1 := keepf hb2 gf1 gl); (try replace gl := Nat.lt_of_lt_of_le gl hb2.size); (try (have gx := (by first | with_reducible exact newvar ha2 | with_reducible exact newvard ha2 | with_reducible exact newvare ha2 : NewVar w1 w2); have ga0 := gx.1; have ga1 := gx.2.1; have gf0 := gx.2.2.1; have gf1 := gx.2.2.2.1; have gl := gx.2.2.2.2; have gge := gB.out.size; have gn0 := Nat.ne_of_lt l0; have gn1 := Nat.ne_of_lt l1; have gn100 := Nat.ne_of_lt l100; clear gx)); replace gB := Lib.hid (onto gB.out hb2); replace s0_0 := keepc hb2 s0_0 l0; replace s0_1 := keepc hb2 s0_1 l0; replace s0_2 := keepc hb2 s0_2 l0; replace s0_3 := keepc hb2 s0_3 l0; replace s0_4 := keepc hb2 s0_4 l0; replace t0_0 := keepc hb2 t0_0 l100; replace t0_1 := keepc hb2 t0_1 l100; replace r0 := keepc hb2 r0 l1; replace f0 := keepf hb2 f0 l1; replace r1 := keepc hb2 r1 l1; replace f1 := keepf hb2 f1 l1; replace r2 := keepc hb2 r2 l1; replace f2 := keepf hb2 f2 l1; replace r3 := keepc hb2 r3 l1; replace f3 := keepf hb2 f3 l1; replace r4 := keepc hb2 r4 l1; replace f4 := keepf hb2 f4 l1; replace l0 := Nat.lt_of_lt_of_le l0 hb2.size; replace l1 := Nat.lt_of_lt_of_le l1 hb2.size; replace l100 := Nat.lt_of_lt_of_le l100 hb2.size; replace hx1 := hx1.to hb2; replace hx2 := hx2.to hb2; replace hx3 := hx3.to hb2; replace hv0 := hv0.to hb2; replace HW := Lib.hid (hstep HW hb2); clear hb2; clear ha2)
      | (go_at_call 117; refine (rsigned_z VV2.out T2 b2 _ (by first | with_reducible exact h2 | with_reducible exact h2.alloc _ | exact h2 | exact h2.alloc _)).mono ?_; rintro e w3 ⟨T3, b3, rfl, h3, ha3⟩; have hb3 : Below w2.heap.size w2 w3 := (by first | with_reducible exact ha3 | with_reducible exact undrew ha3 | with_reducible exact unalloc ha3 | with_reducible exact undrewalloc ha3 | with_reducible exact undrew (unalloc ha3)); (try replace ga0 := keepc hb3 ga0 gl); (try replace ga1 := keepc hb3 ga1 gl); (try replace gf0 := keepf hb3 gf0 gl); (try replace gf1 := keepf hb3 gf1 gl); (try replace gl := Nat.lt_of_lt_of_le gl hb3.size); (try (have gx := (by first | with_reducible exact newvar ha3 | with_reducible exact newvard ha3 | with_reducible exact newvare ha3 : NewVar w2 w3); have ga0 := gx.1; have ga1 := gx.2.1; have gf0 := gx.2.2.1; have gf1 := gx.2.2.2.1; have gl := gx.2.2.2.2; have gge := gB.out.size; have gn0 := Nat.ne_of_lt l0; have gn1 := Nat.ne_of_lt l1; have gn100 := Nat.ne_of_lt l100; clear gx)); replace gB := Lib.hid (onto gB.out hb3); replace s0_0 := keepc hb3 s0_0 l0; replace s0_1 := keepc hb3 s0_1 l0; replace s0_2 := keepc hb3 s0_2 l0; replace s0_3 := keepc hb3 s0_3 l0; replace s0_4 := keepc hb3 s0_4 l0; replace t0_0 := keepc hb3 t0_0 l100; replace t0_1 := keepc hb3 t0_1 l100; replace r0 := keepc hb3 r0 l1; replace f0 := keepf hb3 f0 l1; replace r1 := keepc hb3 r1 l1; replace f1 := keepf hb3 f1 l1; replace r2 := keepc hb3 r2 l1; replace f2 := keepf hb3 f2 l1; replace r3 := keepc hb3 r3 l1; replace f3 := keepf hb3 f3 l1; replace r4 := keepc hb3 r4 l1; replace f4 := keepf hb3 f4 l1; replace l0 := Nat.lt_of_lt_of_le l0 hb3.size; replace l1 := Nat.lt_of_lt_of_le l1 hb3.size; replace l100 := Nat.lt_of_lt_of_le l100 hb3.size; replace hx1 := hx1.to hb3; replace hx2 := hx2.to hb3; replace hx3 := hx3.to hb3; replace hv0 := hv0.to hb3; replace h2 := h2.to hb3; replace HW := Lib.hid (hstep HW hb3); clear hb3; clear ha3)
      | (go_at_call 116; refine (rfloor_eq F2 X2 (nd x) G2.out T3 A3 b3 cA3 _ (by first | with_reducible exact h3 | with_reducible exact h3.alloc _ | exact h3 | exact h3.alloc _) (by first | with_reducible exact hx3 | with_reducible exact hx3.alloc _ | exact hx3 | exact hx3.alloc _) (Nat.le_trans L2.out (by omega)) (by have := HSX.out; unfold sz at this; omega) (nd_ne0 x)).mono ?_; rintro e w4 ⟨T4, b4, rfl, h4, ha4⟩; have hb4 : Below w3.heap.size w3 w4 := (by first | with_reducible exact ha4 | with_reducible exact undrew ha4 | with_reducible exact unalloc ha4 | with_reducible exact undrewalloc ha4 | with_reducible exact undrew (unalloc ha4)); (try replace ga0 := keepc hb4 ga0 gl); (try replace ga1 := keepc hb4 ga1 gl); (try replace gf0 := keepf hb4 gf0 gl); (try replace gf1 := keepf hb4 gf1 gl); (try replace gl := Nat.lt_of_lt_of_le gl hb4.size); (try (have gx := (by first | with_reducible exact newvar ha4 | with_reducible exact newvard ha4 | with_reducible exact newvare ha4 : NewVar w3 w4); have ga0 := gx.1; have ga1 := gx.2.1; have gf0 := gx.2.2.1; have gf1 := gx.2.2.2.1; have gl := gx.2.2.2.2; have gge := gB.out.size; have gn0 := Nat.ne_of_lt l0; have gn1 := Nat.ne_of_lt l1; have gn100 := Nat.ne_of_lt l100; clear gx)); replace gB := Lib.hid (onto gB.out hb4); replace s0_0 := keepc hb4 s0_0 l0; replace s0_1 := keepc hb4 s0_1 l0; replace s0_2 := keepc hb4 s0_2 l0; replace s0_3 := keepc hb4 s0_3 l0; replace s0_4 := keepc hb4 s0_4 l0; replace t0_0 := keepc hb4 t0_0 l100; replace t0_1 := keepc hb4 t0_1 l100; replace r0 := keepc hb4 r0 l1; replace f0 := keepf hb4 f0 l1; replace r1 := keepc hb4 r1 l1; replace f1 := keepf hb4 f1 l1; replace r2 := keepc hb4 r2 l1; replace f2 := keepf hb4 f2 l1; replace r3 := keepc hb4 r3 l1; replace f3 := keepf hb4 f3 l1; replace r4 := keepc hb4 r4 l1; replace f4 := keepf hb4 f4 l1; replace l0 := Nat.lt_of_lt_of_le l0 hb4.size; replace l1 := Nat.lt_of_lt_of_le l1 hb4.size; replace l100 := Nat.lt_of_lt_of_le l100 hb4.size; replace hx1 := hx1.to hb4; replace hx2 := hx2.to hb4; replace hx3 := hx3.to hb4; replace hv0 := hv0.to hb4; replace h2 := h2.to hb4; replace h3 := h3.to hb4; replace HW := Lib.hid (hstep HW hb4); clear hb4; clear ha4))
    all_goals
      go_wp2_with fail
      go_meet
      first | exact varWholeC_set gB.out ga0 ga1 gf0 gf1 h4 gge gl | exact varWholeC_new gB.out h4
  case rest =>
  obtain ⟨g1, V1, cV1, hp1, t1_0, t1_1, u1_0, u1_1, hv1, hg1, l101, hb2⟩ := hcut
  subst hp1
  have n101 : g1 ≠ w.heap.size + 1 := by omega
  obtain ⟨w2, rfl⟩ : ∃ X : World, X = wc := ⟨_, rfl⟩
  replace s0_0 := keepc hb2 s0_0 l0
  replace s0_1 := keepc hb2 s0_1 l0
  replace s0_2 := keepc hb2 s0_2 l0
  replace s0_3 := keepc hb2 s0_3 l0
  replace s0_4 := keepc hb2 s0_4 l0
  replace t0_0 := keepc hb2 t0_0 l100
  replace t0_1 := keepc hb2 t0_1 l100
  replace r0 := keepc hb2 r0 l1
  replace f0 := keepf hb2 f0 l1
  replace r1 := keepc hb2 r1 l1
  replace f1 := keepf hb2 f1 l1
  replace r2 := keepc hb2 r2 l1
  replace f2 := keepf hb2 f2 l1
  replace r3 := keepc hb2 r3 l1
  replace f3 := keepf hb2 f3 l1
  replace r4 := keepc hb2 r4 l1
  replace f4 := keepf hb2 f4 l1
  replace l0 := Nat.lt_of_lt_of_le l0 hb2.size
  replace l1 := Nat.lt_of_lt_of_le l1 hb2.size
  replace l100 := Nat.lt_of_lt_of_le l100 hb2.size
  replace hx1 := hx1.to hb2
  replace hx2 := hx2.to hb2
  replace hx3 := hx3.to hb2
  replace hv0 := hv0.to hb2
  replace HW := Lib.hid (hstep HW hb2)
  clear hb2
  go_wp2_with fail
  go_region_held3 (fun w' => w'.cell? ⟨g0, 0, none⟩ = some (.bool (sn F1)) ∧ w'.cell? ⟨g0, 1, none⟩ = some (.slice V0 (ln (ab F1)) cV0) ∧ w'.cell? ⟨g1, 0, none⟩ = some (.bool (sn F2)) ∧ w'.cell? ⟨g1, 1, none⟩ = some (.slice V1 (ln (ab F2)) cV1)) (first | with_reducible exact ⟨t0_0, t0_1, t1_0, t1_1⟩ | with_reducible exact ⟨(keepd t0_0), (keepd t0_1), (keepd t1_0), (keepd t1_1)⟩ | with_reducible exact ⟨(keepa t0_0 l100), (keepa t0_1 l100), (keepa t1_0 l101), (keepa t1_1 l101)⟩ | with_reducible exact ⟨(keepd (keepa t0_0 l100)), (keepd (keepa t0_1 l100)), (keepd (keepa t1_0 l101)), (keepd (keepa t1_1 l101))⟩ | with_reducible exact ⟨(keepa (keepd t0_0) l100), (keepa (keepd t0_1) l100), (keepa (keepd t1_0) l101), (keepa (keepd t1_1) l101)⟩ | with_reducible exact ⟨(keeps (keeps (keeps (keeps (keeps t0_0 n100) n100) n100) n100) n100), (keeps (keeps (keeps (keeps (keeps t0_1 n100) n100) n100) n100) n100), (keeps (keeps (keeps (keeps (keeps t1_0 n101) n101) n101) n101) n101), (keeps (keeps (keeps (keeps (keeps t1_1 n101) n101) n101) n101) n101)⟩) (first
    | (go_at_call 118; refine (rshl_one U kk k HKK.out EU.out _ _ (by exact nat1_new _ _) HK.out).mono ?_; rintro e w3 ⟨AU, cU, rfl, hu, ha⟩; have hb3 : Below w2.heap.size w2 w3 := (by first | with_reducible exact unalloc ha | with_reducible exact undrew (unalloc ha) | with_reducible exact undrewalloc ha | with_reducible exact unalloc (undrew ha) | with_reducible exact undrew ha); replace s0_0 := keepc hb3 s0_0 l0; replace s0_1 := keepc hb3 s0_1 l0; replace s0_2 := keepc hb3 s0_2 l0; replace s0_3 := keepc hb3 s0_3 l0; replace s0_4 := keepc hb3 s0_4 l0; replace t0_0 := keepc hb3 t0_0 l100; replace t0_1 := keepc hb3 t0_1 l100; replace t1_0 := keepc hb3 t1_0 l101; replace t1_1 := keepc hb3 t1_1 l101; replace r0 := keepc hb3 r0 l1; replace f0 := keepf hb3 f0 l1; replace r1 := keepc hb3 r1 l1; replace f1 := keepf hb3 f1 l1; replace r2 := keepc hb3 r2 l1; replace f2 := keepf hb3 f2 l1; replace r3 := keepc hb3 r3 l1; replace f3 := keepf hb3 f3 l1; replace r4 := keepc hb3 r4 l1; replace f4 := keepf hb3 f4 l1; replace l0 := Nat.lt_of_lt_of_le l0 hb3.size; replace l1 := Nat.lt_of_lt_of_le l1 hb3.size; replace l100 := Nat.lt_of_lt_of_le l100 hb3.size; replace l101 := Nat.lt_of_lt_of_le l101 hb3.size; replace hx1 := hx1.to hb3; replace hx2 := hx2.to hb3; replace hx3 := hx3.to hb3; replace hv0 := hv0.to hb3; replace hv1 := hv1.to hb3; replace HW := Lib.hid (hstep HW hb3); clear hb3; clear ha)
    | (go_at_call 100; refine (rmake_any F1 F2 U V0 V1 AU cV0 cV1 cU _ (by exact hv0) (by exact hv1) (by exact hu) (Nat.le_trans M1.out (by omega)) (Nat.le_trans M2.out (by omega)) (Nat.le_trans LU.out (by omega)) U0.out).mono ?_; rintro e w4 ⟨Z1, Z2, Z3, cZ1, cZ2, cZ3, rfl, hz, hb4⟩; replace s0_0 := keepc hb4 s0_0 l0; replace s0_1 := keepc hb4 s0_1 l0; replace s0_2 := keepc hb4 s0_2 l0; replace s0_3 := keepc hb4 s0_3 l0; replace s0_4 := keepc hb4 s0_4 l0; replace t0_0 := keepc hb4 t0_0 l100; replace t0_1 := keepc hb4 t0_1 l100; replace t1_0 := keepc hb4 t1_0 l101; replace t1_1 := keepc hb4 t1_1 l101; replace r0 := keepc hb4 r0 l1; replace f0 := keepf hb4 f0 l1; replace r1 := keepc hb4 r1 l1; replace f1 := keepf hb4 f1 l1; replace r2 := keepc hb4 r2 l1; replace f2 := keepf hb4 f2 l1; replace r3 := keepc hb4 r3 l1; replace f3 := keepf hb4 f3 l1; replace r4 := keepc hb4 r4 l1; replace f4 := keepf hb4 f4 l1; replace l0 := Nat.lt_of_lt_of_le l0 hb4.size; replace l1 := Nat.lt_of_lt_of_le l1 hb4.size; replace l100 := Nat.lt_of_lt_of_le l100 hb4.size; replace l101 := Nat.lt_of_lt_of_le l101 hb4.size; replace hx1 := hx1.to hb4; replace hx2 := hx2.to hb4; replace hx3 := hx3.to hb4; replace hv0 := hv0.to hb4; replace hv1 := hv1.to hb4; replace hu := hu.to hb4; replace HW := Lib.hid (hstep HW hb4); clear hb4))
  go_wp2_with fail
  exact bodyPost_ret (v := .agg #[.bool (sn (na (fr F1 F2 U))), .slice Z1 (ln (ab (na (fr F1 F2 U)))) cZ1, .bool (sn (nb (fr F1 F2 U))), .slice Z2 (ln (ab (nb (fr F1 F2 U)))) cZ2, .slice Z3 (ln (nd (fr F1 F2 U))) cZ3]) (by simp [results, Tryz.results57, go_sem, r0, r1, r2, r3, r4, f0, f1, f2, f3, f4]) rfl (retNumC_fin HW hz (by omega) r0)

/-- 'Floor' of the reference. -/
theorem rfloorQ_any (x : Cx) (A1 A2 A3 : Option Addr) (cA1 cA2 cA3 : Nat) (w : World) (hx : Num3C w A1 A2 A3 x) (k : Int) (kk : Nat) (hk : min (max k 0) 1000 = (kk : Int)) (hsx : sz 137438953472 x) :
    Calls Tryz.prog 57 #[.agg #[.bool (sn (na x)), .slice A1 (ln (ab (na x))) cA1, .bool (sn (nb x)), .slice A2 (ln (ab (nb x))) cA2, .slice A3 (ln (nd x)) cA3], .int .i64 k] w (RetNumC w (floorQ x kk)) := by
  by_cases h : k < 0
  · exact rfloorQ_low x A1 A2 A3 cA1 cA2 cA3 w hx k kk h (by omega) hsx
  · by_cases h2 : 1000 < k
    · exact rfloorQ_high x A1 A2 A3 cA1 cA2 cA3 w hx k kk h2 (by omega) hsx
    · exact rfloorQ_mid x A1 A2 A3 cA1 cA2 cA3 w hx k kk h h2 (by omega) hsx
end Go.Proofs.YtgpmlhpgdalheaaGreat

namespace Go.Proofs.YtgpmlhpgdalheaaGreat
open Go.RowKit Pl
set_option linter.unusedVariables false
set_option linter.unusedSimpArgs false

theorem sz_floor {K k : Nat} {x : Cx} (hk : k ≤ 1000) (hx : sz K x) : sz (K + 32) (floorQ x k) := by
  have h1 := ln_two k hk
  have key : ∀ a : Int, ln (ab a) ≤ K → ln (ab (flZ a (nd x) k)) ≤ K + 32 := fun a h => Nat.le_trans (ln_mono (ab_floor _ _ (nd_ne0 x))) (ab_mul_ln h (ab_nat_ln h1))
  exact fr_sz (by have := two_pos k; omega) (key _ hx.1) (key _ hx.2.1) (by omega)
theorem shl_int (i : Nat) (h : i ≤ 32) : IntKind.i64.wrap (2 ^ i) = ((2 ^ i : Nat) : Int) := by
  have h2 : 2 ^ i ≤ 2 ^ 32 := Nat.pow_le_pow_right (by omega) h
  have h3 : (2 : Nat) ^ 32 = 4294967296 := by decide
  have e : (2 ^ i : Int) = ((2 ^ i : Nat) : Int) := by norm_cast
  rw [e]
  generalize 2 ^ i = P at *
  simp [IntKind.wrap, IntKind.bits, IntKind.signed]; omega

set_option maxRecDepth 100000 in
set_option maxHeartbeats 4000000 in
theorem numFloor_walk (a b d s k : Int) (w : World) (ha : -9223372036854775808 ≤ a ∧ a ≤ 9223372036854775807) (hb : -9223372036854775808 ≤ b ∧ b ≤ 9223372036854775807) (hd : -9223372036854775808 ≤ d ∧ d ≤ 9223372036854775807) (h1 : -32768 ≤ s) (h2 : s ≤ 32767) :
    Calls Tryz.prog 5 #[.agg #[.int .i64 a, .int .i64 b, .int .i64 d], .int .i16 s, .int .i64 k] w (RetBool w true) := by
  have HS := Lib.hid (fun w => scaled_two a b d s w ha hb hd h1 h2)
  obtain ⟨kk, hk⟩ : ∃ kk : Nat, min (max k 0) 1000 = (kk : Int) := ⟨(min (max k 0) 1000).toNat, by omega⟩
  obtain ⟨nn, hn⟩ : ∃ nn : Nat, min (max k 0) 64 = (nn : Int) := ⟨(min (max k 0) 64).toNat, by omega⟩
  have HK := Lib.hid hk
  have HN := Lib.hid hn
  have HB : Hid (kk ≤ 1000 ∧ nn ≤ 64) := Lib.hid (by omega)
  clear ha hb hd h1 h2 hk hn
  go_enter Tryz.func5, Tryz.ntmps5
  go_wp2_with fail
  obtain ⟨W, hW⟩ : ∃ W : World, W = (w.alloc (.cells #[.int .i64 a, .int .i64 b, .int .i64 d] 23)) := ⟨_, rfl⟩
  have s0_0 : W.cell? ⟨w.heap.size, 0, none⟩ = some (.int .i64 a) := by subst hW; go_simp
  have s0_1 : W.cell? ⟨w.heap.size, 1, none⟩ = some (.int .i64 b) := by subst hW; go_simp
  have s0_2 : W.cell? ⟨w.heap.size, 2, none⟩ = some (.int .i64 d) := by subst hW; go_simp
  have HW : Below w.heap.size w W := by subst hW; exact ((Below.refl w.heap.size w).alloc (Nat.le_refl _) _)
  have l0 : w.heap.size < W.heap.size := by subst hW; simp
  rw [← hW]
  clear hW
  replace HW := Lib.hid HW
  refine (HS.out _).mono ?_
  rintro e w1 ⟨q, X01, X02, X03, Y1, Y2, Y3, c1, c2, c3, zq, rfl, hx, hy, hb⟩
  clear s0_0 s0_1 s0_2 HS
  replace HW := Lib.hid (hstep HW hb)
  clear hb l0
  go_upto_region 2 with fail
  obtain ⟨X, hX⟩ : ∃ X : World, X = (w1.alloc (.cells #[.bool (sn (na q)), .slice X01 (ln (ab (na q))) (ln (ab (na q))), .bool (sn (nb q)), .slice X02 (ln (ab (nb q))) (ln (ab (nb q))), .slice X03 (ln (un q)) (ln (un q))] 30)).alloc (.cells #[.bool (sn (na q)), .slice Y1 (ln (ab (na q))) c1, .bool (sn (nb q)), .slice Y2 (ln (ab (nb q))) c2, .slice Y3 (ln (nd q)) c3] 34) := ⟨_, rfl⟩
  rw [← hX]
  have hb : Below w1.heap.size w1 X := by rw [hX]; exact ((Below.refl _ _).alloc (Nat.le_refl _) _).alloc (by simp) _
  have V0 : VarAt X w1.heap.size q X01 X02 X03 := ⟨by rw [hX]; simp <;> omega, ⟨by subst hX; go_simp, by subst hX; go_simp, by subst hX; go_simp, by subst hX; go_simp, by subst hX; go_simp⟩, hx.to hb⟩
  have VR : HasR X (w1.heap.size + 1) q := by subst hX; exact ⟨by simp, ⟨Y1, Y2, Y3, c1, c2, c3, ⟨by go_simp, by go_simp, by go_simp, by go_simp, by go_simp⟩, (hy.1.alloc _).alloc _, (hy.2.1.alloc _).alloc _, (hy.2.2.alloc _).alloc _⟩, by go_simp, by go_simp, by go_simp, by go_simp, by go_simp⟩
  clear hX hx hy
  replace HW := Lib.hid (hstep HW hb)
  clear hb
  generalize w1.heap.size = x0 at *
  obtain ⟨fq, hfq⟩ : ∃ fq, fq = floorQ q kk := ⟨_, rfl⟩
  have FL := fun A1 A2 A3 (w : World) h => floor_num q A1 A2 A3 w h k kk HK.out (zq.mono (by omega))
  have RF := fun A1 A2 A3 c1 c2 c3 (w : World) h => rfloorQ_any q A1 A2 A3 c1 c2 c3 w h k kk HK.out (zq.mono (by omega))
  have zf : sz 7232 fq := by rw [hfq]; exact sz_floor HB.out.1 zq
  rw [← hfq] at FL RF
  clear hfq
  obtain ⟨tV0_0, tV0_1, tV0_2, tV0_3, tV0_4⟩ := V0.2.1
  go_wp2_with fail
  refine (FL X01 X02 X03 _ (by exact V0.2.2)).mono ?_
  rintro e w30 ⟨X11, X12, X13, rfl, hq, hb⟩
  clear tV0_0 tV0_1 tV0_2 tV0_3 tV0_4
  replace VR := VR.to hb
  replace V0 := VarAt.to V0 hb
  replace HW := Lib.hid (hstep HW hb)
  clear hb
  go_upto_region 3 with fail
  obtain ⟨X, hX⟩ : ∃ X : World, X = w30.alloc (.cells #[.bool (sn (na fq)), .slice X11 (ln (ab (na fq))) (ln (ab (na fq))), .bool (sn (nb fq)), .slice X12 (ln (ab (nb fq))) (ln (ab (nb fq))), .slice X13 (ln (un fq)) (ln (un fq))] 30) := ⟨_, rfl⟩
  rw [← hX]
  have hb : Below w30.heap.size w30 X := by rw [hX]; exact (Below.refl _ _).alloc (Nat.le_refl _) _
  have V1 : VarAt X w30.heap.size (fq) X11 X12 X13 := ⟨by rw [hX]; simp, ⟨by subst hX; go_simp, by subst hX; go_simp, by subst hX; go_simp, by subst hX; go_simp, by subst hX; go_simp⟩, hq.to hb⟩
  clear hX hq
  replace VR := VR.to hb
  replace V0 := VarAt.to V0 hb
  replace HW := Lib.hid (hstep HW hb)
  clear hb
  generalize w30.heap.size = x1 at *
  clear FL
  obtain ⟨lR, ⟨Y1, Y2, Y3, c1, c2, c3, ⟨e0, e1, e2, e3, e4⟩, nR⟩, _⟩ := VR
  go_region_held3 (fun w' => w'.cell? ⟨x1, 0, none⟩ = some (.bool (sn (na fq))) ∧ w'.cell? ⟨x1, 1, none⟩ = some (.slice X11 (ln (ab (na fq))) (ln (ab (na fq)))) ∧ w'.cell? ⟨x1, 2, none⟩ = some (.bool (sn (nb fq))) ∧ w'.cell? ⟨x1, 3, none⟩ = some (.slice X12 (ln (ab (nb fq))) (ln (ab (nb fq)))) ∧ w'.cell? ⟨x1, 4, none⟩ = some (.slice X13 (ln (un fq)) (ln (un fq))) ∧ w'.cell? ⟨x0 + 1, 0, none⟩ = some (.bool (sn (na q))) ∧ w'.cell? ⟨x0 + 1, 1, none⟩ = some (.slice Y1 (ln (ab (na q))) c1) ∧ w'.cell? ⟨x0 + 1, 2, none⟩ = some (.bool (sn (nb q))) ∧ w'.cell? ⟨x0 + 1, 3, none⟩ = some (.slice Y2 (ln (ab (nb q))) c2) ∧ w'.cell? ⟨x0 + 1, 4, none⟩ = some (.slice Y3 (ln (nd q)) c3)) (first | with_reducible exact ⟨V1.2.1.1, V1.2.1.2.1, V1.2.1.2.2.1, V1.2.1.2.2.2.1, V1.2.1.2.2.2.2, e0, e1, e2, e3, e4⟩ | exact ⟨V1.2.1.1, V1.2.1.2.1, V1.2.1.2.2.1, V1.2.1.2.2.2.1, V1.2.1.2.2.2.2, e0, e1, e2, e3, e4⟩) (first
    | (go_at_call 57; refine (RF Y1 Y2 Y3 c1 c2 c3 _ (by exact nR)).mono ?_; rintro e w101 ⟨F1, F2, F3, d1, d2, d3, rfl, hF, hb⟩; have hb := undrew hb; replace e0 := keepc hb e0 lR; replace e1 := keepc hb e1 lR; replace e2 := keepc hb e2 lR; replace e3 := keepc hb e3 lR; replace e4 := keepc hb e4 lR; replace nR := nR.to hb; replace lR := Nat.lt_of_lt_of_le lR hb.size; replace V0 := VarAt.to V0 hb; replace V1 := VarAt.to V1 hb; replace HW := Lib.hid (hstep HW hb); clear hb)
    | (go_at_call 45; refine (is_true fq X11 X12 X13 F1 F2 F3 d1 d2 d3 _ (by exact V1.2.2) (by exact hF) (zf.mono (by omega))).mono ?_; rintro e w102 ⟨rfl, hb⟩; replace e0 := keepc hb e0 lR; replace e1 := keepc hb e1 lR; replace e2 := keepc hb e2 lR; replace e3 := keepc hb e3 lR; replace e4 := keepc hb e4 lR; replace nR := nR.to hb; replace lR := Nat.lt_of_lt_of_le lR hb.size; clear hF; replace V0 := VarAt.to V0 hb; replace V1 := VarAt.to V1 hb; replace HW := Lib.hid (hstep HW hb); clear hb))
  clear e0 e1 e2 e3 e4 nR lR RF
  have hn := HN.out
  go_upto_region 6 with fail
  clear hn
  have hi : nn / 2 ≤ 32 ∧ nn - nn / 2 ≤ 32 := by have := HB.out.2; omega
  obtain ⟨i, ei⟩ : ∃ i, i = nn / 2 := ⟨_, rfl⟩
  obtain ⟨j, ej⟩ : ∃ j, j = nn - nn / 2 := ⟨_, rfl⟩
  have hi1 : (nn : Int) / 2 = (i : Int) := by omega
  have hi2 : (nn : Int) - (i : Int) = (j : Int) := by omega
  have HIJ : Hid (i ≤ 32 ∧ j ≤ 32 ∧ i + j = nn) := Lib.hid (by omega)
  have hb0 : nn ≤ 64 := HB.out.2
  have hb1 : i ≤ 32 := by omega
  have hb2 : j ≤ 32 := by omega
  obtain ⟨P, hP⟩ : ∃ P : Nat, P = 2 ^ i := ⟨_, rfl⟩
  obtain ⟨Q, hQ⟩ : ∃ Q : Nat, Q = 2 ^ j := ⟨_, rfl⟩
  have w1 : IntKind.i64.wrap (2 ^ i) = (P : Int) := by rw [shl_int i hb1, hP]
  have w2 : IntKind.i64.wrap (2 ^ j) = (Q : Int) := by rw [shl_int j hb2, hQ]
  have wi : IntKind.i64.wrap (i : Int) = (i : Int) := by simp [IntKind.wrap, IntKind.bits, IntKind.signed]; omega
  have wj : IntKind.i64.wrap (j : Int) = (j : Int) := by simp [IntKind.wrap, IntKind.bits, IntKind.signed]; omega
  have HP := Lib.hid hP
  have HQ := Lib.hid hQ
  clear hi ei ej hP hQ
  clear V1
  have bP : (P : Int) ≤ 9223372036854775807 ∧ (0 : Int) < P ∧ (Q : Int) ≤ 9223372036854775807 ∧ (0 : Int) < Q := by have h1 : 2 ^ i ≤ 2 ^ 32 := Nat.pow_le_pow_right (by omega) hb1; have h2 : 2 ^ j ≤ 2 ^ 32 := Nat.pow_le_pow_right (by omega) hb2; have h3 : (2 : Nat) ^ 32 = 4294967296 := (by decide); have h4 := two_pos i; have h5 := two_pos j; rw [← HP.out] at h1 h4; rw [← HQ.out] at h2 h5; omega
  obtain ⟨sP, hsP⟩ : ∃ z, z = ofv 1 0 (P : Int) := ⟨_, rfl⟩
  obtain ⟨sQ, hsQ⟩ : ∃ z, z = ofv 1 0 (Q : Int) := ⟨_, rfl⟩
  have OP := fun w => of_any 1 0 (P : Int) w (by omega) (by omega) (by omega)
  have OQ := fun w => of_any 1 0 (Q : Int) w (by omega) (by omega) (by omega)
  have zP : sz 2 (ofv 1 0 (P : Int)) := sz_of (by omega) (by omega) (by omega)
  have zQ : sz 2 (ofv 1 0 (Q : Int)) := sz_of (by omega) (by omega) (by omega)
  have eS : (ofv 1 0 (P : Int)).mul (ofv 1 0 (Q : Int)) = stepQ nn := by rw [HP.out, HQ.out, step_mul, HIJ.out.2.2]
  rw [← hsP, ← hsQ] at eS
  rw [← hsP] at OP zP
  rw [← hsQ] at OQ zQ
  obtain ⟨st, hst⟩ : ∃ z, z = stepQ nn := ⟨_, rfl⟩
  have MU := fun A1 A2 A3 B1 B2 B3 (w : World) h1 h2 => mul_num sP sQ A1 A2 A3 B1 B2 B3 w h1 h2 (zP.mono (by omega)) (zQ.mono (by omega))
  have zst : sz 5 st := by rw [hst, ← eS]; exact sz_mul zP zQ
  rw [eS, ← hst] at MU
  have HST := Lib.hid hst
  clear eS hst zP zQ hsP hsQ bP
  go_upto_region 6 with fail
  go_cut [11] (fun p wx => VarNum w102 (st) p wx)
  case first =>
    have gB : Hid (Below w102.heap.size w102 w102) := Lib.hid (Below.refl _ _)
    go_region_held3 (fun w' => True) (first | with_reducible exact ⟨⟩ | with_reducible exact ⟨⟩ | with_reducible exact ⟨⟩ | with_reducible exact ⟨⟩ | with_reducible exact ⟨⟩ | with_reducible exact ⟨⟩ | (have _ := gx; with_reducible exact ⟨⟩)) (first
      | (go_at_call_of 58 (Value.int .i64 (P : Nat)); refine (OP _).mono ?_; rintro e w201 ⟨A1, A2, A3, rfl, h201, ha⟩; have hb201 : Below w102.heap.size w102 w201 := (by first | with_reducible exact ha | with_reducible exact undrew ha | with_reducible exact unalloc ha | with_reducible exact undrewalloc ha | with_reducible exact unalloc (unalloc ha) | with_reducible exact unalloc (undrewalloc ha) | with_reducible exact undrew (unalloc ha) | with_reducible exact undrew (unalloc (unalloc ha))); (try replace q1 := q1.to hb201); (try replace gx := gx.to hb201); (try first | (with_reducible have q1 := newnat1 ha) | (with_reducible have q1 := newnat1 (undrew ha)) | (with_reducible have q1 := newnat ha) | (with_reducible have q1 := newnat (undrew ha)) | (with_reducible have q1 := newnat (unalloc ha)) | (with_reducible have q1 := newnat (undrewalloc ha))); (try ((first | (with_reducible have gx := newvarN1 ha) | (with_reducible have gx := newvarN1 (undrew ha)) | (with_reducible have gx := newvarN ha) | (with_reducible have gx := newvarN (undrew ha)) | (with_reducible have gx := newvarN (unalloc ha)) | (with_reducible have gx := newvarN (undrewalloc ha))); have gge := Nat.le_trans gB.out.size gx.1)); replace gB := Lib.hid (onto gB.out hb201); replace V0 := V0.to hb201; replace HW := Lib.hid (hstep HW hb201); clear hb201; clear ha)
      | (go_at_call_of 58 (Value.int .i64 (Q : Nat)); refine (OQ _).mono ?_; rintro e w202 ⟨B1, B2, B3, rfl, h202, ha⟩; have hb202 : Below w201.heap.size w201 w202 := (by first | with_reducible exact ha | with_reducible exact undrew ha | with_reducible exact unalloc ha | with_reducible exact undrewalloc ha | with_reducible exact unalloc (unalloc ha) | with_reducible exact unalloc (undrewalloc ha) | with_reducible exact undrew (unalloc ha) | with_reducible exact undrew (unalloc (unalloc ha))); (try replace q1 := q1.to hb202); (try replace gx := gx.to hb202); (try first | (with_reducible have q1 := newnat1 ha) | (with_reducible have q1 := newnat1 (undrew ha)) | (with_reducible have q1 := newnat ha) | (with_reducible have q1 := newnat (undrew ha)) | (with_reducible have q1 := newnat (unalloc ha)) | (with_reducible have q1 := newnat (undrewalloc ha))); (try ((first | (with_reducible have gx := newvarN1 ha) | (with_reducible have gx := newvarN1 (undrew ha)) | (with_reducible have gx := newvarN ha) | (with_reducible have gx := newvarN (undrew ha)) | (with_reducible have gx := newvarN (unalloc ha)) | (with_reducible have gx := newvarN (undrewalloc ha))); have gge := Nat.le_trans gB.out.size gx.1)); replace gB := Lib.hid (onto gB.out hb202); replace V0 := V0.to hb202; replace h201 := h201.to hb202; replace HW := Lib.hid (hstep HW hb202); clear hb202; clear ha)
      | (go_at_call 30; refine (MU A1 A2 A3 B1 B2 B3 _ (by first | with_reducible exact h201 | with_reducible exact num3_alloc h201) (by first | with_reducible exact h202 | with_reducible exact num3_alloc h202)).mono ?_; rintro e w203 ⟨C1, C2, C3, rfl, h203, ha⟩; have hb203 : Below w202.heap.size w202 w203 := (by first | with_reducible exact ha | with_reducible exact undrew ha | with_reducible exact unalloc ha | with_reducible exact undrewalloc ha | with_reducible exact unalloc (unalloc ha) | with_reducible exact unalloc (undrewalloc ha) | with_reducible exact undrew (unalloc ha) | with_reducible exact undrew (unalloc (unalloc ha))); (try replace q1 := q1.to hb203); (try replace gx := gx.to hb203); (try first | (with_reducible have q1 := newnat1 ha) | (with_reducible have q1 := newnat1 (undrew ha)) | (with_reducible have q1 := newnat ha) | (with_reducible have q1 := newnat (undrew ha)) | (with_reducible have q1 := newnat (unalloc ha)) | (with_reducible have q1 := newnat (undrewalloc ha))); (try ((first | (with_reducible have gx := newvarN1 ha) | (with_reducible have gx := newvarN1 (undrew ha)) | (with_reducible have gx := newvarN ha) | (with_reducible have gx := newvarN (undrew ha)) | (with_reducible have gx := newvarN (unalloc ha)) | (with_reducible have gx := newvarN (undrewalloc ha))); have gge := Nat.le_trans gB.out.size gx.1)); replace gB := Lib.hid (onto gB.out hb203); replace V0 := V0.to hb203; replace h201 := h201.to hb203; replace h202 := h202.to hb203; replace HW := Lib.hid (hstep HW hb203); clear hb203; (try (have gy := gx; obtain ⟨_, gl, ⟨gc0, gc1, gc2, gc3, gc4⟩, gf0, gf1, gf2, gf3, gf4⟩ := gy)); clear ha))
    all_goals
      go_wp2_with fail
      go_meet
      first | with_reducible exact varNum_set gB.out gx gge h203 | with_reducible exact varNum_new gB.out h203
  case rest =>
  obtain ⟨g0, V01, V02, V03, hp0, ⟨t0_0, t0_1, t0_2, t0_3, t0_4⟩, hv0, hg0, l100, hb201⟩ := hcut
  obtain ⟨hv01, hv02, hv03⟩ := hv0
  subst hp0
  obtain ⟨w201, rfl⟩ : ∃ X : World, X = wc := ⟨_, rfl⟩
  replace V0 := V0.to hb201
  replace HW := Lib.hid (hstep HW hb201)
  clear hb201
  have V3 : VarAt w201 g0 st V01 V02 V03 := ⟨l100, ⟨t0_0, t0_1, t0_2, t0_3, t0_4⟩, hv01, hv02, hv03⟩
  clear t0_0 t0_1 t0_2 t0_3 t0_4 hv01 hv02 hv03 l100 hg0 OP OQ MU w1 w2 wi wj hi1 hi2 hb0 hb1 hb2
  have hk2 : min (max (nn : Int) 0) 1000 = (nn : Int) := by have := HB.out.2; omega
  obtain ⟨gq, hgq⟩ : ∃ z, z = floorQ q nn := ⟨_, rfl⟩
  have FL := fun A1 A2 A3 (w : World) h => floor_num q A1 A2 A3 w h (nn : Int) nn hk2 (zq.mono (by omega))
  have zg : sz 7232 gq := by rw [hgq]; exact sz_floor (by have := HB.out.2; omega) zq
  rw [← hgq] at FL
  have HG := Lib.hid hgq
  clear hk2 hgq
  obtain ⟨tV0_0, tV0_1, tV0_2, tV0_3, tV0_4⟩ := V0.2.1
  obtain ⟨tV3_0, tV3_1, tV3_2, tV3_3, tV3_4⟩ := V3.2.1
  go_wp2_with fail
  refine (FL X01 X02 X03 _ (by exact V0.2.2)).mono ?_
  rintro e w60 ⟨X41, X42, X43, rfl, hq, hb⟩
  clear tV0_0 tV0_1 tV0_2 tV0_3 tV0_4 tV3_0 tV3_1 tV3_2 tV3_3 tV3_4
  replace V0 := VarAt.to V0 hb
  replace V3 := VarAt.to V3 hb
  replace HW := Lib.hid (hstep HW hb)
  clear hb
  go_upto_region 8 with fail
  obtain ⟨X, hX⟩ : ∃ X : World, X = w60.alloc (.cells #[.bool (sn (na gq)), .slice X41 (ln (ab (na gq))) (ln (ab (na gq))), .bool (sn (nb gq)), .slice X42 (ln (ab (nb gq))) (ln (ab (nb gq))), .slice X43 (ln (un gq)) (ln (un gq))] 30) := ⟨_, rfl⟩
  rw [← hX]
  have hb : Below w60.heap.size w60 X := by rw [hX]; exact (Below.refl _ _).alloc (Nat.le_refl _) _
  have V4 : VarAt X w60.heap.size (gq) X41 X42 X43 := ⟨by rw [hX]; simp, ⟨by subst hX; go_simp, by subst hX; go_simp, by subst hX; go_simp, by subst hX; go_simp, by subst hX; go_simp⟩, hq.to hb⟩
  clear hX hq
  replace V0 := VarAt.to V0 hb
  replace V3 := VarAt.to V3 hb
  replace HW := Lib.hid (hstep HW hb)
  clear hb
  generalize w60.heap.size = x4 at *
  obtain ⟨rq, hrq⟩ : ∃ z, z = q.sub gq := ⟨_, rfl⟩
  have SU := fun A1 A2 A3 B1 B2 B3 (w : World) h1 h2 => sub_num q gq A1 A2 A3 B1 B2 B3 w h1 h2 (zq.mono (by omega)) (zg.mono (by omega))
  have zr : sz 14465 rq := by rw [hrq]; exact sz_sub (zq.mono (by omega : 7200 ≤ 7232)) zg
  rw [← hrq] at SU
  have HRQ := Lib.hid hrq
  clear hrq FL
  obtain ⟨tV0_0, tV0_1, tV0_2, tV0_3, tV0_4⟩ := V0.2.1
  obtain ⟨tV3_0, tV3_1, tV3_2, tV3_3, tV3_4⟩ := V3.2.1
  obtain ⟨tV4_0, tV4_1, tV4_2, tV4_3, tV4_4⟩ := V4.2.1
  go_wp2_with fail
  refine (SU X01 X02 X03 X41 X42 X43 _ (by exact V0.2.2) (by exact V4.2.2)).mono ?_
  rintro e w70 ⟨X51, X52, X53, rfl, hq, hb⟩
  clear tV0_0 tV0_1 tV0_2 tV0_3 tV0_4 tV3_0 tV3_1 tV3_2 tV3_3 tV3_4 tV4_0 tV4_1 tV4_2 tV4_3 tV4_4
  replace V0 := VarAt.to V0 hb
  replace V3 := VarAt.to V3 hb
  replace V4 := VarAt.to V4 hb
  replace HW := Lib.hid (hstep HW hb)
  clear hb
  go_upto_region 9 with fail
  obtain ⟨X, hX⟩ : ∃ X : World, X = w70.alloc (.cells #[.bool (sn (na rq)), .slice X51 (ln (ab (na rq))) (ln (ab (na rq))), .bool (sn (nb rq)), .slice X52 (ln (ab (nb rq))) (ln (ab (nb rq))), .slice X53 (ln (un rq)) (ln (un rq))] 30) := ⟨_, rfl⟩
  rw [← hX]
  have hb : Below w70.heap.size w70 X := by rw [hX]; exact (Below.refl _ _).alloc (Nat.le_refl _) _
  have V5 : VarAt X w70.heap.size (rq) X51 X52 X53 := ⟨by rw [hX]; simp, ⟨by subst hX; go_simp, by subst hX; go_simp, by subst hX; go_simp, by subst hX; go_simp, by subst hX; go_simp⟩, hq.to hb⟩
  clear hX hq
  replace V0 := VarAt.to V0 hb
  replace V3 := VarAt.to V3 hb
  replace V4 := VarAt.to V4 hb
  replace HW := Lib.hid (hstep HW hb)
  clear hb
  generalize w70.heap.size = x5 at *
  have h0 : st ≠ Cx.zero := by rw [HST.out]; exact step_ne nn
  obtain ⟨wq, hwq⟩ : ∃ z, z = gq.div st := ⟨_, rfl⟩
  have DI := fun A1 A2 A3 B1 B2 B3 (w : World) h1 h2 => div_num0 gq st A1 A2 A3 B1 B2 B3 w h1 h2 (zg.mono (by omega)) (zst.mono (by omega)) h0
  have zw : sz 28930 wq := by rw [hwq]; exact sz_div (by omega) zg (zst.mono (by omega : 5 ≤ 7232)) h0
  rw [← hwq] at DI
  have HWQ := Lib.hid hwq
  clear hwq h0 SU V0
  obtain ⟨tV3_0, tV3_1, tV3_2, tV3_3, tV3_4⟩ := V3.2.1
  obtain ⟨tV4_0, tV4_1, tV4_2, tV4_3, tV4_4⟩ := V4.2.1
  obtain ⟨tV5_0, tV5_1, tV5_2, tV5_3, tV5_4⟩ := V5.2.1
  go_wp2_with fail
  refine (DI X41 X42 X43 V01 V02 V03 _ (by exact V4.2.2) (by exact V3.2.2)).mono ?_
  rintro e w80 ⟨X61, X62, X63, rfl, hq, hb⟩
  clear tV3_0 tV3_1 tV3_2 tV3_3 tV3_4 tV4_0 tV4_1 tV4_2 tV4_3 tV4_4 tV5_0 tV5_1 tV5_2 tV5_3 tV5_4
  replace V3 := VarAt.to V3 hb
  replace V4 := VarAt.to V4 hb
  replace V5 := VarAt.to V5 hb
  replace HW := Lib.hid (hstep HW hb)
  clear hb
  go_upto_region 10 with fail
  obtain ⟨X, hX⟩ : ∃ X : World, X = w80.alloc (.cells #[.bool (sn (na wq)), .slice X61 (ln (ab (na wq))) (ln (ab (na wq))), .bool (sn (nb wq)), .slice X62 (ln (ab (nb wq))) (ln (ab (nb wq))), .slice X63 (ln (un wq)) (ln (un wq))] 30) := ⟨_, rfl⟩
  rw [← hX]
  have hb : Below w80.heap.size w80 X := by rw [hX]; exact (Below.refl _ _).alloc (Nat.le_refl _) _
  have V6 : VarAt X w80.heap.size (wq) X61 X62 X63 := ⟨by rw [hX]; simp, ⟨by subst hX; go_simp, by subst hX; go_simp, by subst hX; go_simp, by subst hX; go_simp, by subst hX; go_simp⟩, hq.to hb⟩
  clear hX hq
  replace V3 := VarAt.to V3 hb
  replace V4 := VarAt.to V4 hb
  replace V5 := VarAt.to V5 hb
  replace HW := Lib.hid (hstep HW hb)
  clear hb
  generalize w80.heap.size = x6 at *
  clear DI V4
  have HA := awake_any
  have r1 := rest_re q nn
  have r2 := rest_im q nn
  have r3 := floor_whole q nn
  rw [← HG.out, ← HRQ.out, ← HST.out] at r1 r2
  rw [← HG.out, ← HST.out, ← HWQ.out] at r3
  obtain ⟨c1, hc1⟩ : ∃ c, cmpC rq.reOf (Cx.ofInt 0) = c := ⟨_, rfl⟩
  obtain ⟨c2, hc2⟩ : ∃ c, cmpC rq.imOf (Cx.ofInt 0) = c := ⟨_, rfl⟩
  have t1 : decide (0 ≤ c1) = true := by rw [← hc1]; exact decide_eq_true r1.1
  have t2 : decide (0 ≤ c2) = true := by rw [← hc2]; exact decide_eq_true r2.1
  have HC1 := Lib.hid hc1
  have HC2 := Lib.hid hc2
  have HC3 := Lib.hid r1.2
  have HC4 := Lib.hid r2.2
  have HC5 : Hid (decide (floorQ wq 0 = wq) = true) := Lib.hid (decide_eq_true r3)
  have F0 := fun A1 A2 A3 (w : World) h => floor_num wq A1 A2 A3 w h 0 0 (by omega) (zw.mono (by omega))
  have zf0 : sz 28962 (floorQ wq 0) := sz_floor (by omega) zw
  clear r1 r2 r3 hc1 hc2 HK HN
  go_region_held3 (fun w' => w'.cell? ⟨g0, 0, none⟩ = some (.bool (sn (na st))) ∧ w'.cell? ⟨g0, 1, none⟩ = some (.slice V01 (ln (ab (na st))) (ln (ab (na st)))) ∧ w'.cell? ⟨g0, 2, none⟩ = some (.bool (sn (nb st))) ∧ w'.cell? ⟨g0, 3, none⟩ = some (.slice V02 (ln (ab (nb st))) (ln (ab (nb st)))) ∧ w'.cell? ⟨g0, 4, none⟩ = some (.slice V03 (ln (un st)) (ln (un st))) ∧ w'.cell? ⟨x5, 0, none⟩ = some (.bool (sn (na rq))) ∧ w'.cell? ⟨x5, 1, none⟩ = some (.slice X51 (ln (ab (na rq))) (ln (ab (na rq)))) ∧ w'.cell? ⟨x5, 2, none⟩ = some (.bool (sn (nb rq))) ∧ w'.cell? ⟨x5, 3, none⟩ = some (.slice X52 (ln (ab (nb rq))) (ln (ab (nb rq)))) ∧ w'.cell? ⟨x5, 4, none⟩ = some (.slice X53 (ln (un rq)) (ln (un rq))) ∧ w'.cell? ⟨x6, 0, none⟩ = some (.bool (sn (na wq))) ∧ w'.cell? ⟨x6, 1, none⟩ = some (.slice X61 (ln (ab (na wq))) (ln (ab (na wq)))) ∧ w'.cell? ⟨x6, 2, none⟩ = some (.bool (sn (nb wq))) ∧ w'.cell? ⟨x6, 3, none⟩ = some (.slice X62 (ln (ab (nb wq))) (ln (ab (nb wq)))) ∧ w'.cell? ⟨x6, 4, none⟩ = some (.slice X63 (ln (un wq)) (ln (un wq)))) (first | with_reducible exact ⟨V3.2.1.1, V3.2.1.2.1, V3.2.1.2.2.1, V3.2.1.2.2.2.1, V3.2.1.2.2.2.2, V5.2.1.1, V5.2.1.2.1, V5.2.1.2.2.1, V5.2.1.2.2.2.1, V5.2.1.2.2.2.2, V6.2.1.1, V6.2.1.2.1, V6.2.1.2.2.1, V6.2.1.2.2.2.1, V6.2.1.2.2.2.2⟩ | exact ⟨V3.2.1.1, V3.2.1.2.1, V3.2.1.2.2.1, V3.2.1.2.2.2.1, V3.2.1.2.2.2.2, V5.2.1.1, V5.2.1.2.1, V5.2.1.2.2.1, V5.2.1.2.2.2.1, V5.2.1.2.2.2.2, V6.2.1.1, V6.2.1.2.1, V6.2.1.2.2.1, V6.2.1.2.2.2.1, V6.2.1.2.2.2.2⟩) (first
    | (have _ := mk312; go_at_call 23; refine (HA _).mono ?_; rintro e w313 ⟨rfl, hb313⟩; replace V3 := VarAt.to V3 hb313; replace V5 := VarAt.to V5 hb313; replace V6 := VarAt.to V6 hb313; replace HW := Lib.hid (hstep HW hb313); clear hb313; have mk313 : True := trivial; clear mk312)
    | (have _ := mk311; go_at_call 48; refine (same_to (floorQ wq 0) wq P3111 P3112 P3113 X61 X62 X63 _ (by exact h311) (by exact V6.2.2) (zf0.mono (by decide)) (zw.mono (by decide)) HC5.out).mono ?_; rintro e w312 ⟨rfl, hb312⟩; replace V3 := VarAt.to V3 hb312; replace V5 := VarAt.to V5 hb312; replace V6 := VarAt.to V6 hb312; replace h311 := h311.to hb312; replace HW := Lib.hid (hstep HW hb312); clear hb312; clear h311; have mk312 : True := trivial; clear mk311)
    | (have _ := mk310; go_at_call 56; refine (F0 X61 X62 X63 _ (by exact V6.2.2)).mono ?_; rintro e w311 ⟨P3111, P3112, P3113, rfl, h311, hb311⟩; replace V3 := VarAt.to V3 hb311; replace V5 := VarAt.to V5 hb311; replace V6 := VarAt.to V6 hb311; replace HW := Lib.hid (hstep HW hb311); clear hb311; have mk311 : True := trivial; clear mk310)
    | (have _ := mk309; go_at_call 50; refine (cmp_to rq.imOf st P3091 P3092 P3093 V01 V02 V03 _ (by exact h309) (by exact V3.2.2) ((sz_im zr).mono (by decide)) (zst.mono (by decide)) HC4.out).mono ?_; rintro e w310 ⟨rfl, hb310⟩; replace V3 := VarAt.to V3 hb310; replace V5 := VarAt.to V5 hb310; replace V6 := VarAt.to V6 hb310; replace h309 := h309.to hb310; replace HW := Lib.hid (hstep HW hb310); clear hb310; clear h309; have mk310 : True := trivial; clear mk309)
    | (have _ := mk308; go_at_call 41; refine (im_num rq X51 X52 X53 _ (by exact V5.2.2) (zr.mono (by decide))).mono ?_; rintro e w309 ⟨P3091, P3092, P3093, rfl, h309, hb309⟩; replace V3 := VarAt.to V3 hb309; replace V5 := VarAt.to V5 hb309; replace V6 := VarAt.to V6 hb309; replace HW := Lib.hid (hstep HW hb309); clear hb309; have mk309 : True := trivial; clear mk308)
    | (have _ := mk307; go_at_call 50; refine (cmp_to rq.reOf st P3071 P3072 P3073 V01 V02 V03 _ (by exact h307) (by exact V3.2.2) ((sz_re zr).mono (by decide)) (zst.mono (by decide)) HC3.out).mono ?_; rintro e w308 ⟨rfl, hb308⟩; replace V3 := VarAt.to V3 hb308; replace V5 := VarAt.to V5 hb308; replace V6 := VarAt.to V6 hb308; replace h307 := h307.to hb308; replace HW := Lib.hid (hstep HW hb308); clear hb308; clear h307; have mk308 : True := trivial; clear mk307)
    | (have _ := mk306; go_at_call 40; refine (re_num rq X51 X52 X53 _ (by exact V5.2.2) (zr.mono (by omega))).mono ?_; rintro e w307 ⟨P3071, P3072, P3073, rfl, h307, hb307⟩; replace V3 := VarAt.to V3 hb307; replace V5 := VarAt.to V5 hb307; replace V6 := VarAt.to V6 hb307; replace HW := Lib.hid (hstep HW hb307); clear hb307; have mk307 : True := trivial; clear mk306)
    | (have _ := mk305; go_at_call 50; refine (cmp_to rq.imOf (Cx.ofInt (0)) P3041 P3042 P3043 P3051 P3052 P3053 _ (by exact h304) (by exact h305) ((sz_im zr).mono (by decide)) ((sz_int0).mono (by decide)) HC2.out).mono ?_; rintro e w306 ⟨rfl, hb306⟩; replace V3 := VarAt.to V3 hb306; replace V5 := VarAt.to V5 hb306; replace V6 := VarAt.to V6 hb306; replace h304 := h304.to hb306; replace h305 := h305.to hb306; replace HW := Lib.hid (hstep HW hb306); clear hb306; clear h304; clear h305; have mk306 : True := trivial; clear mk305)
    | (have _ := mk304; go_at_call 59; refine (int_any (0) _ (by omega) (by omega)).mono ?_; rintro e w305 ⟨P3051, P3052, P3053, rfl, h305, hb305⟩; replace V3 := VarAt.to V3 hb305; replace V5 := VarAt.to V5 hb305; replace V6 := VarAt.to V6 hb305; replace h304 := h304.to hb305; replace HW := Lib.hid (hstep HW hb305); clear hb305; have mk305 : True := trivial; clear mk304)
    | (have _ := mk303; go_at_call 41; refine (im_num rq X51 X52 X53 _ (by exact V5.2.2) (zr.mono (by decide))).mono ?_; rintro e w304 ⟨P3041, P3042, P3043, rfl, h304, hb304⟩; replace V3 := VarAt.to V3 hb304; replace V5 := VarAt.to V5 hb304; replace V6 := VarAt.to V6 hb304; replace HW := Lib.hid (hstep HW hb304); clear hb304; have mk304 : True := trivial; clear mk303)
    | (have _ := mk302; go_at_call 50; refine (cmp_to rq.reOf (Cx.ofInt (0)) P3011 P3012 P3013 P3021 P3022 P3023 _ (by exact h301) (by exact h302) ((sz_re zr).mono (by decide)) ((sz_int0).mono (by decide)) HC1.out).mono ?_; rintro e w303 ⟨rfl, hb303⟩; replace V3 := VarAt.to V3 hb303; replace V5 := VarAt.to V5 hb303; replace V6 := VarAt.to V6 hb303; replace h301 := h301.to hb303; replace h302 := h302.to hb303; replace HW := Lib.hid (hstep HW hb303); clear hb303; clear h301; clear h302; have mk303 : True := trivial; clear mk302)
    | (have _ := mk301; go_at_call 59; refine (int_any (0) _ (by omega) (by omega)).mono ?_; rintro e w302 ⟨P3021, P3022, P3023, rfl, h302, hb302⟩; replace V3 := VarAt.to V3 hb302; replace V5 := VarAt.to V5 hb302; replace V6 := VarAt.to V6 hb302; replace h301 := h301.to hb302; replace HW := Lib.hid (hstep HW hb302); clear hb302; have mk302 : True := trivial; clear mk301)
    | (go_at_call 40; refine (re_num rq X51 X52 X53 _ (by exact V5.2.2) (zr.mono (by omega))).mono ?_; rintro e w301 ⟨P3011, P3012, P3013, rfl, h301, hb301⟩; have hb301 := undrew hb301; replace V3 := VarAt.to V3 hb301; replace V5 := VarAt.to V5 hb301; replace V6 := VarAt.to V6 hb301; replace HW := Lib.hid (hstep HW hb301); clear hb301; have mk301 : True := trivial))
  go_wp2_with fail
  exact bodyPost_ret (v := .bool true) (by simp [results, Tryz.results5, go_sem]) rfl ⟨rfl, HW.out⟩

end Go.Proofs.YtgpmlhpgdalheaaGreat
