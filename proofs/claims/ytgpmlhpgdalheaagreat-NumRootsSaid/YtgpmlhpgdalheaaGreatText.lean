/- 'part', 'Text'. -/
import Derived.Test.YtgpmlhpgdalheaaGreatLawA
import Derived.Test.YtgpmlhpgdalheaaGreatDig
namespace Go.Proofs.YtgpmlhpgdalheaaGreat
open Go.RowKit Pl
set_option linter.unusedVariables false
set_option linter.unusedSimpArgs false

theorem fold_size (l : List Int) : ∀ s : ByteArray, (l.foldl (fun r n => r.push (UInt8.ofNat n.toNat)) s).size = s.size + l.length := by
  induction l with
  | nil => intro s; simp
  | cons a l ih => intro s; rw [List.foldl_cons, ih]; simp [ByteArray.size_push]; omega
theorem dec_size (n : Nat) : (dec n).size ≤ 10 * ln n + 1 := by
  unfold dec
  by_cases h : n = 0
  · rw [if_pos h]; show 1 ≤ _; omega
  · rw [if_neg h, fold_size]
    have := rd_ln n
    simp
    omega
/-- The text of a real number in lowest terms. -/
def sgT (q : Cx) : ByteArray := if sn (na q) = true then ⟨#[45]⟩ ++ dec (ab (na q)) else dec (ab (na q))
def partT (q : Cx) : ByteArray := if un q = 0 then sgT q else sgT q ++ (⟨#[47]⟩ ++ dec (un q))
theorem partT_size {q : Cx} (h : sz 1099511627776 q) : (partT q).size ≤ 70368744177664 := by
  have h1 := dec_size (ab (na q))
  have h2 := dec_size (un q)
  have h3 := un_ln q
  have h4 := h.1
  have h5 := h.2.2
  unfold partT sgT
  split <;> split <;> (try simp only [ByteArray.size_append]) <;> (try rw [show (ByteArray.mk #[45]).size = 1 from rfl]) <;> (try rw [show (ByteArray.mk #[47]).size = 1 from rfl]) <;> omega

set_option maxHeartbeats 4000000 in
theorem part_any (a : Int) (d : Nat) (A D : Option Addr) (w : World) (hx : Nat32 w A (ab a)) (hd : Nat32 w D d) (hbx : ln (ab a) ≤ 549755813888) (hbd : ln d ≤ 549755813888) (hd0 : d ≠ 0) :
    Calls Tryz.prog 156 #[.agg #[.bool (sn (a)), .slice A (ln (ab (a))) (ln (ab (a)))], .slice D (ln d) (ln d)] w (RetStr w (partT (fr a 0 d))) := by
  have HZ : Hid (sz 549755813888 (fr a 0 d)) := Lib.hid (fr_sz hd0 hbx (by show ln 0 ≤ _; rw [ln_zero]; omega) hbd)
  have HA := Lib.hid hbx
  have HD := Lib.hid hbd
  have H0 := Lib.hid hd0
  clear hbx hbd hd0
  go_enter Tryz.func156, Tryz.ntmps156
  go_wp2_with fail
  obtain ⟨W, hW⟩ : ∃ W : World, W = (w.alloc (.cells #[.bool (sn (a)), .slice A (ln (ab (a))) (ln (ab (a)))] 28)) := ⟨_, rfl⟩
  have s0_0 : W.cell? ⟨w.heap.size, 0, none⟩ = some (.bool (sn (a))) := by subst hW; go_simp
  have s0_1 : W.cell? ⟨w.heap.size, 1, none⟩ = some (.slice A (ln (ab (a))) (ln (ab (a)))) := by subst hW; go_simp
  have HW : Below w.heap.size w W := by subst hW; exact ((Below.refl w.heap.size w).alloc (Nat.le_refl _) _)
  have l0 : w.heap.size < W.heap.size := by subst hW; simp
  replace hx := hx.to HW
  replace hd := hd.to HW
  rw [← hW]
  clear hW
  replace HW := Lib.hid HW
  refine (over0_any a d A D _ (by exact hx) (by exact hd) (by have := HA.out; omega) (by have := HD.out; omega) H0.out).mono ?_
  rintro e w1 ⟨Z1, Z2, Z3, rfl, h1, hb1⟩
  replace s0_0 := keepc hb1 s0_0 l0
  replace s0_1 := keepc hb1 s0_1 l0
  replace l0 := Nat.lt_of_lt_of_le l0 hb1.size
  replace hx := hx.to hb1
  replace hd := hd.to hb1
  replace HW := Lib.hid (hstep HW hb1)
  clear hb1
  go_wp2_with fail
  obtain ⟨X, hX⟩ : ∃ X : World, X = w1.alloc (.cells #[.bool (sn (na (fr a 0 d))), .slice Z1 (ln (ab (na (fr a 0 d)))) (ln (ab (na (fr a 0 d)))), .bool (sn (nb (fr a 0 d))), .slice Z2 (ln (ab (nb (fr a 0 d)))) (ln (ab (nb (fr a 0 d)))), .slice Z3 (ln (un (fr a 0 d))) (ln (un (fr a 0 d)))] 30) := ⟨_, rfl⟩
  rw [← hX]
  have b2 : Below w1.heap.size w1 X := by rw [hX]; exact (Below.refl _ _).alloc (Nat.le_refl _) _
  have V : VarAt X w1.heap.size (fr a 0 d) Z1 Z2 Z3 := ⟨by rw [hX]; simp, ⟨by subst hX; go_simp, by subst hX; go_simp, by subst hX; go_simp, by subst hX; go_simp, by subst hX; go_simp⟩, h1.to b2⟩
  replace HW := Lib.hid (hstep HW b2)
  clear hX b2 hx hd h1 s0_0 s0_1 l0
  generalize w1.heap.size = g at *
  generalize fr a 0 d = q at *
  have HQ : Hid (ln (ab (na q)) ≤ 1099511627776 ∧ ln (un q) ≤ 1099511627776) := Lib.hid ⟨Nat.le_trans HZ.out.1 (by omega), Nat.le_trans (un_ln q) (Nat.le_trans HZ.out.2.2 (by omega))⟩
  have HC : Hid ((sn (na q) = true ∨ sn (na q) = false) ∧ (un q ≠ 0 ∨ un q = 0)) := Lib.hid ⟨by cases sn (na q) <;> simp, by omega⟩
  rcases HC.out with ⟨t1 | t1, t2 | t2⟩
  · have T1 := Lib.hid t1; have T2 := Lib.hid t2; clear t1 t2
    refine (digits_any (ab (na q)) Z1 _ (by exact V.2.2.1) HQ.out.1).mono ?_
    rintro e w2 ⟨rfl, hb2⟩; replace V := V.to hb2; replace HW := Lib.hid (hstep HW hb2); clear hb2
    have z1 : (dec (ab (na q))).size ≤ 17592186044416 := by have := dec_size (ab (na q)); have := HQ.out.1; omega
    have z2 : (dec (un q)).size ≤ 17592186044416 := by have := dec_size (un q); have := HQ.out.2; omega
    obtain ⟨c0, c1, c2, c3, c4⟩ := V.2.1
    rw [T1.out] at c0
    have t2 : decide (0 < ln (un q)) = true := by have := ln_pos T2.out; simpa using this
    go_wp2_with fail
    clear c0 c1 c2 c3 c4
    refine (digits_any (un q) Z3 _ (by exact V.2.2.2.2) HQ.out.2).mono ?_
    rintro e w3 ⟨rfl, hb3⟩; replace HW := Lib.hid (hstep HW hb3); clear hb3
    go_wp2_with fail
    have E : Hid (partT q = ⟨#[45]⟩ ++ dec (ab (na q)) ++ (⟨#[47]⟩ ++ dec (un q))) := Lib.hid (by unfold partT sgT; simp [T1.out, T2.out, ByteArray.append_assoc])
    rw [E.out]
    go_ret
    exact ⟨by first | rfl | simp [ByteArray.append_assoc], HW.out⟩
  · have T1 := Lib.hid t1; have T2 := Lib.hid t2; clear t1 t2
    refine (digits_any (ab (na q)) Z1 _ (by exact V.2.2.1) HQ.out.1).mono ?_
    rintro e w2 ⟨rfl, hb2⟩; replace V := V.to hb2; replace HW := Lib.hid (hstep HW hb2); clear hb2
    have z1 : (dec (ab (na q))).size ≤ 17592186044416 := by have := dec_size (ab (na q)); have := HQ.out.1; omega
    have z2 : (dec (un q)).size ≤ 17592186044416 := by have := dec_size (un q); have := HQ.out.2; omega
    obtain ⟨c0, c1, c2, c3, c4⟩ := V.2.1
    rw [T1.out] at c0
    have t2 : decide (0 < ln (un q)) = false := by rw [T2.out, ln_zero]; rfl
    go_wp2_with fail
    have E : Hid (partT q = ⟨#[45]⟩ ++ dec (ab (na q))) := Lib.hid (by unfold partT sgT; simp [T1.out, T2.out, ByteArray.append_assoc])
    rw [E.out]
    go_ret
    exact ⟨by first | rfl | simp [ByteArray.append_assoc], HW.out⟩
  · have T1 := Lib.hid t1; have T2 := Lib.hid t2; clear t1 t2
    refine (digits_any (ab (na q)) Z1 _ (by exact V.2.2.1) HQ.out.1).mono ?_
    rintro e w2 ⟨rfl, hb2⟩; replace V := V.to hb2; replace HW := Lib.hid (hstep HW hb2); clear hb2
    have z1 : (dec (ab (na q))).size ≤ 17592186044416 := by have := dec_size (ab (na q)); have := HQ.out.1; omega
    have z2 : (dec (un q)).size ≤ 17592186044416 := by have := dec_size (un q); have := HQ.out.2; omega
    obtain ⟨c0, c1, c2, c3, c4⟩ := V.2.1
    rw [T1.out] at c0
    have t2 : decide (0 < ln (un q)) = true := by have := ln_pos T2.out; simpa using this
    go_wp2_with fail
    clear c0 c1 c2 c3 c4
    refine (digits_any (un q) Z3 _ (by exact V.2.2.2.2) HQ.out.2).mono ?_
    rintro e w3 ⟨rfl, hb3⟩; replace HW := Lib.hid (hstep HW hb3); clear hb3
    go_wp2_with fail
    have E : Hid (partT q = dec (ab (na q)) ++ (⟨#[47]⟩ ++ dec (un q))) := Lib.hid (by unfold partT sgT; simp [T1.out, T2.out, ByteArray.append_assoc])
    rw [E.out]
    go_ret
    exact ⟨by first | rfl | simp [ByteArray.append_assoc], HW.out⟩
  · have T1 := Lib.hid t1; have T2 := Lib.hid t2; clear t1 t2
    refine (digits_any (ab (na q)) Z1 _ (by exact V.2.2.1) HQ.out.1).mono ?_
    rintro e w2 ⟨rfl, hb2⟩; replace V := V.to hb2; replace HW := Lib.hid (hstep HW hb2); clear hb2
    have z1 : (dec (ab (na q))).size ≤ 17592186044416 := by have := dec_size (ab (na q)); have := HQ.out.1; omega
    have z2 : (dec (un q)).size ≤ 17592186044416 := by have := dec_size (un q); have := HQ.out.2; omega
    obtain ⟨c0, c1, c2, c3, c4⟩ := V.2.1
    rw [T1.out] at c0
    have t2 : decide (0 < ln (un q)) = false := by rw [T2.out, ln_zero]; rfl
    go_wp2_with fail
    have E : Hid (partT q = dec (ab (na q))) := Lib.hid (by unfold partT sgT; simp [T1.out, T2.out, ByteArray.append_assoc])
    rw [E.out]
    go_ret
    exact ⟨by first | rfl | simp [ByteArray.append_assoc], HW.out⟩

theorem real_to (x : Cx) (A1 A2 A3 : Option Addr) (w : World) (hx : Num3 w A1 A2 A3 x) {b : Bool} (h : decide (nb x = 0) = b) :
    Calls Tryz.prog 54 #[.agg #[.bool (sn (na x)), .slice A1 (ln (ab (na x))) (ln (ab (na x))), .bool (sn (nb x)), .slice A2 (ln (ab (nb x))) (ln (ab (nb x))), .slice A3 (ln (un x)) (ln (un x))]] w (RetBool w b) := h ▸ real_any x A1 A2 A3 w hx
/-- The text of a number. -/
def imT (x : Cx) : ByteArray := partT (fr (nb x) 0 (nd x)) ++ ⟨#[105]⟩
def textT (x : Cx) : ByteArray := if nb x = 0 then partT (fr (na x) 0 (nd x)) else if na x = 0 then imT x else partT (fr (na x) 0 (nd x)) ++ (if sn (nb x) = true then imT x else ⟨#[43]⟩ ++ imT x)

set_option maxHeartbeats 4000000 in
theorem text_real (x : Cx) (A1 A2 A3 : Option Addr) (w : World) (hx : Num3 w A1 A2 A3 x) (hs : sz 274877906944 x) (h : nb x = 0) :
    Calls Tryz.prog 95 #[.agg #[.bool (sn (na x)), .slice A1 (ln (ab (na x))) (ln (ab (na x))), .bool (sn (nb x)), .slice A2 (ln (ab (nb x))) (ln (ab (nb x))), .slice A3 (ln (un x)) (ln (un x))]] w (RetStr w (textT x)) := by
  have HS : Hid (sz 274877906944 x) := Lib.hid hs
  have HT : Hid (textT x = partT (fr (na x) 0 (nd x))) := Lib.hid (by unfold textT; simp [h])
  have t1 : Hid (decide (nb x = 0) = true) := Lib.hid (decide_eq_true h)
  have zr : (partT (fr (na x) 0 (nd x))).size ≤ 70368744177664 := partT_size (fr_sz (nd_ne0 x) (Nat.le_trans hs.1 (by omega)) (by show ln 0 ≤ _; rw [ln_zero]; omega) (Nat.le_trans hs.2.2 (by omega)))
  have zi : (partT (fr (nb x) 0 (nd x))).size ≤ 70368744177664 := partT_size (fr_sz (nd_ne0 x) (Nat.le_trans hs.2.1 (by omega)) (by show ln 0 ≤ _; rw [ln_zero]; omega) (Nat.le_trans hs.2.2 (by omega)))
  have y1 : ¬ (9223372036854775807 < (partT (fr (nb x) 0 (nd x))).size + 1) := by omega
  have y2 : ¬ (9223372036854775807 < 1 + ((partT (fr (nb x) 0 (nd x))).size + 1)) := by omega
  have y3 : ¬ (9223372036854775807 < (partT (fr (na x) 0 (nd x))).size + ((partT (fr (nb x) 0 (nd x))).size + 1)) := by omega
  have y4 : ¬ (9223372036854775807 < (partT (fr (na x) 0 (nd x))).size + (1 + ((partT (fr (nb x) 0 (nd x))).size + 1))) := by omega
  rw [HT.out]
  clear h hs
  go_enter Tryz.func95, Tryz.ntmps95
  go_wp2_with fail
  obtain ⟨W, hW⟩ : ∃ W : World, W = (w.alloc (.cells #[.bool (sn (na x)), .slice A1 (ln (ab (na x))) (ln (ab (na x))), .bool (sn (nb x)), .slice A2 (ln (ab (nb x))) (ln (ab (nb x))), .slice A3 (ln (un x)) (ln (un x))] 30)) := ⟨_, rfl⟩
  have s0_0 : W.cell? ⟨w.heap.size, 0, none⟩ = some (.bool (sn (na x))) := by subst hW; go_simp
  have s0_1 : W.cell? ⟨w.heap.size, 1, none⟩ = some (.slice A1 (ln (ab (na x))) (ln (ab (na x)))) := by subst hW; go_simp
  have s0_2 : W.cell? ⟨w.heap.size, 2, none⟩ = some (.bool (sn (nb x))) := by subst hW; go_simp
  have s0_3 : W.cell? ⟨w.heap.size, 3, none⟩ = some (.slice A2 (ln (ab (nb x))) (ln (ab (nb x)))) := by subst hW; go_simp
  have s0_4 : W.cell? ⟨w.heap.size, 4, none⟩ = some (.slice A3 (ln (un x)) (ln (un x))) := by subst hW; go_simp
  have HW : Below w.heap.size w W := by subst hW; exact ((Below.refl w.heap.size w).alloc (Nat.le_refl _) _)
  have l0 : w.heap.size < W.heap.size := by subst hW; simp
  replace hx := hx.to HW
  rw [← hW]
  clear hW
  replace HW := Lib.hid HW
  refine (real_to x A1 A2 A3 _ (by exact hx) t1.out).mono ?_
  rintro e w1 ⟨rfl, hb1⟩
  replace s0_0 := keepc hb1 s0_0 l0
  replace s0_1 := keepc hb1 s0_1 l0
  replace s0_2 := keepc hb1 s0_2 l0
  replace s0_3 := keepc hb1 s0_3 l0
  replace s0_4 := keepc hb1 s0_4 l0
  replace l0 := Nat.lt_of_lt_of_le l0 hb1.size
  replace hx := hx.to hb1
  replace HW := Lib.hid (hstep HW hb1)
  clear hb1
  go_wp2_with fail
  go_region_held3 (fun w' => w'.cell? ⟨w.heap.size, 0, none⟩ = some (.bool (sn (na x))) ∧ w'.cell? ⟨w.heap.size, 1, none⟩ = some (.slice A1 (ln (ab (na x))) (ln (ab (na x)))) ∧ w'.cell? ⟨w.heap.size, 2, none⟩ = some (.bool (sn (nb x))) ∧ w'.cell? ⟨w.heap.size, 3, none⟩ = some (.slice A2 (ln (ab (nb x))) (ln (ab (nb x)))) ∧ w'.cell? ⟨w.heap.size, 4, none⟩ = some (.slice A3 (ln (un x)) (ln (un x)))) (first | with_reducible exact ⟨s0_0, s0_1, s0_2, s0_3, s0_4⟩ | with_reducible exact ⟨s0_0, s0_1, s0_2, s0_3, s0_4⟩ | exact ⟨s0_0, s0_1, s0_2, s0_3, s0_4⟩) (first
    | (go_at_call 89; refine (den_any x A1 A2 A3 _ (by exact hx)).mono ?_; rintro e w2 ⟨D, rfl, hD, hb2⟩; have hb2 := undrew hb2; replace s0_0 := keepc hb2 s0_0 l0; replace s0_1 := keepc hb2 s0_1 l0; replace s0_2 := keepc hb2 s0_2 l0; replace s0_3 := keepc hb2 s0_3 l0; replace s0_4 := keepc hb2 s0_4 l0; replace l0 := Nat.lt_of_lt_of_le l0 hb2.size; replace hx := hx.to hb2; replace HW := Lib.hid (hstep HW hb2); clear hb2)
    | (go_at_call 156; refine (part_any (na x) (nd x) A1 D _ (by exact hx.1) (by exact hD) (Nat.le_trans HS.out.1 (by omega)) (Nat.le_trans HS.out.2.2 (by omega)) (nd_ne0 x)).mono ?_; rintro e w3 ⟨rfl, hb3⟩; replace s0_0 := keepc hb3 s0_0 l0; replace s0_1 := keepc hb3 s0_1 l0; replace s0_2 := keepc hb3 s0_2 l0; replace s0_3 := keepc hb3 s0_3 l0; replace s0_4 := keepc hb3 s0_4 l0; replace l0 := Nat.lt_of_lt_of_le l0 hb3.size; replace hx := hx.to hb3; replace hD := hD.to hb3; replace HW := Lib.hid (hstep HW hb3); clear hb3; clear hD))
  go_wp2_with fail
  go_ret
  exact ⟨by first | rfl | (unfold imT; simp [ByteArray.append_assoc]), HW.out⟩

set_option maxHeartbeats 4000000 in
theorem text_imag (x : Cx) (A1 A2 A3 : Option Addr) (w : World) (hx : Num3 w A1 A2 A3 x) (hs : sz 274877906944 x) (h : nb x ≠ 0) (k : na x = 0) :
    Calls Tryz.prog 95 #[.agg #[.bool (sn (na x)), .slice A1 (ln (ab (na x))) (ln (ab (na x))), .bool (sn (nb x)), .slice A2 (ln (ab (nb x))) (ln (ab (nb x))), .slice A3 (ln (un x)) (ln (un x))]] w (RetStr w (textT x)) := by
  have HS : Hid (sz 274877906944 x) := Lib.hid hs
  have HT : Hid (textT x = imT x) := Lib.hid (by unfold textT; simp [h, k])
  have t1 : Hid (decide (nb x = 0) = false) := Lib.hid (decide_eq_false h)
  have hk := Lib.hid k
  have zr : (partT (fr (na x) 0 (nd x))).size ≤ 70368744177664 := partT_size (fr_sz (nd_ne0 x) (Nat.le_trans hs.1 (by omega)) (by show ln 0 ≤ _; rw [ln_zero]; omega) (Nat.le_trans hs.2.2 (by omega)))
  have zi : (partT (fr (nb x) 0 (nd x))).size ≤ 70368744177664 := partT_size (fr_sz (nd_ne0 x) (Nat.le_trans hs.2.1 (by omega)) (by show ln 0 ≤ _; rw [ln_zero]; omega) (Nat.le_trans hs.2.2 (by omega)))
  have y1 : ¬ (9223372036854775807 < (partT (fr (nb x) 0 (nd x))).size + 1) := by omega
  have y2 : ¬ (9223372036854775807 < 1 + ((partT (fr (nb x) 0 (nd x))).size + 1)) := by omega
  have y3 : ¬ (9223372036854775807 < (partT (fr (na x) 0 (nd x))).size + ((partT (fr (nb x) 0 (nd x))).size + 1)) := by omega
  have y4 : ¬ (9223372036854775807 < (partT (fr (na x) 0 (nd x))).size + (1 + ((partT (fr (nb x) 0 (nd x))).size + 1))) := by omega
  rw [HT.out]
  clear h hs k
  go_enter Tryz.func95, Tryz.ntmps95
  go_wp2_with fail
  obtain ⟨W, hW⟩ : ∃ W : World, W = (w.alloc (.cells #[.bool (sn (na x)), .slice A1 (ln (ab (na x))) (ln (ab (na x))), .bool (sn (nb x)), .slice A2 (ln (ab (nb x))) (ln (ab (nb x))), .slice A3 (ln (un x)) (ln (un x))] 30)) := ⟨_, rfl⟩
  have s0_0 : W.cell? ⟨w.heap.size, 0, none⟩ = some (.bool (sn (na x))) := by subst hW; go_simp
  have s0_1 : W.cell? ⟨w.heap.size, 1, none⟩ = some (.slice A1 (ln (ab (na x))) (ln (ab (na x)))) := by subst hW; go_simp
  have s0_2 : W.cell? ⟨w.heap.size, 2, none⟩ = some (.bool (sn (nb x))) := by subst hW; go_simp
  have s0_3 : W.cell? ⟨w.heap.size, 3, none⟩ = some (.slice A2 (ln (ab (nb x))) (ln (ab (nb x)))) := by subst hW; go_simp
  have s0_4 : W.cell? ⟨w.heap.size, 4, none⟩ = some (.slice A3 (ln (un x)) (ln (un x))) := by subst hW; go_simp
  have HW : Below w.heap.size w W := by subst hW; exact ((Below.refl w.heap.size w).alloc (Nat.le_refl _) _)
  have l0 : w.heap.size < W.heap.size := by subst hW; simp
  replace hx := hx.to HW
  rw [← hW]
  clear hW
  replace HW := Lib.hid HW
  refine (real_to x A1 A2 A3 _ (by exact hx) t1.out).mono ?_
  rintro e w1 ⟨rfl, hb1⟩
  replace s0_0 := keepc hb1 s0_0 l0
  replace s0_1 := keepc hb1 s0_1 l0
  replace s0_2 := keepc hb1 s0_2 l0
  replace s0_3 := keepc hb1 s0_3 l0
  replace s0_4 := keepc hb1 s0_4 l0
  replace l0 := Nat.lt_of_lt_of_le l0 hb1.size
  replace hx := hx.to hb1
  replace HW := Lib.hid (hstep HW hb1)
  clear hb1
  go_wp2_with fail
  have t2 : ((ln (ab (na x)) : Int) == 0) = true := by rw [hk.out, show ab 0 = 0 from rfl, ln_zero]; rfl
  go_region_held3 (fun w' => w'.cell? ⟨w.heap.size, 0, none⟩ = some (.bool (sn (na x))) ∧ w'.cell? ⟨w.heap.size, 1, none⟩ = some (.slice A1 (ln (ab (na x))) (ln (ab (na x)))) ∧ w'.cell? ⟨w.heap.size, 2, none⟩ = some (.bool (sn (nb x))) ∧ w'.cell? ⟨w.heap.size, 3, none⟩ = some (.slice A2 (ln (ab (nb x))) (ln (ab (nb x)))) ∧ w'.cell? ⟨w.heap.size, 4, none⟩ = some (.slice A3 (ln (un x)) (ln (un x)))) (first | with_reducible exact ⟨s0_0, s0_1, s0_2, s0_3, s0_4⟩ | with_reducible exact ⟨s0_0, s0_1, s0_2, s0_3, s0_4⟩ | exact ⟨s0_0, s0_1, s0_2, s0_3, s0_4⟩) (first
    | (go_at_call 89; refine (den_any x A1 A2 A3 _ (by exact hx)).mono ?_; rintro e w2 ⟨D, rfl, hD, hb2⟩; have hb2 := undrew hb2; replace s0_0 := keepc hb2 s0_0 l0; replace s0_1 := keepc hb2 s0_1 l0; replace s0_2 := keepc hb2 s0_2 l0; replace s0_3 := keepc hb2 s0_3 l0; replace s0_4 := keepc hb2 s0_4 l0; replace l0 := Nat.lt_of_lt_of_le l0 hb2.size; replace hx := hx.to hb2; replace HW := Lib.hid (hstep HW hb2); clear hb2)
    | (go_at_call 156; refine (part_any (nb x) (nd x) A2 D _ (by exact hx.2.1) (by exact hD) (Nat.le_trans HS.out.2.1 (by omega)) (Nat.le_trans HS.out.2.2 (by omega)) (nd_ne0 x)).mono ?_; rintro e w3 ⟨rfl, hb3⟩; replace s0_0 := keepc hb3 s0_0 l0; replace s0_1 := keepc hb3 s0_1 l0; replace s0_2 := keepc hb3 s0_2 l0; replace s0_3 := keepc hb3 s0_3 l0; replace s0_4 := keepc hb3 s0_4 l0; replace l0 := Nat.lt_of_lt_of_le l0 hb3.size; replace hx := hx.to hb3; replace hD := hD.to hb3; replace HW := Lib.hid (hstep HW hb3); clear hb3; clear hD))
  go_wp2_with fail
  go_ret
  exact ⟨by first | rfl | (unfold imT; simp [ByteArray.append_assoc]), HW.out⟩

set_option maxHeartbeats 4000000 in
theorem text_minus (x : Cx) (A1 A2 A3 : Option Addr) (w : World) (hx : Num3 w A1 A2 A3 x) (hs : sz 274877906944 x) (h : nb x ≠ 0) (k : na x ≠ 0) (m : sn (nb x) = true) :
    Calls Tryz.prog 95 #[.agg #[.bool (sn (na x)), .slice A1 (ln (ab (na x))) (ln (ab (na x))), .bool (sn (nb x)), .slice A2 (ln (ab (nb x))) (ln (ab (nb x))), .slice A3 (ln (un x)) (ln (un x))]] w (RetStr w (textT x)) := by
  have HS : Hid (sz 274877906944 x) := Lib.hid hs
  have HT : Hid (textT x = partT (fr (na x) 0 (nd x)) ++ imT x) := Lib.hid (by unfold textT; simp [h, k, m])
  have t1 : Hid (decide (nb x = 0) = false) := Lib.hid (decide_eq_false h)
  have hk := Lib.hid k
  have hm := Lib.hid m
  have zr : (partT (fr (na x) 0 (nd x))).size ≤ 70368744177664 := partT_size (fr_sz (nd_ne0 x) (Nat.le_trans hs.1 (by omega)) (by show ln 0 ≤ _; rw [ln_zero]; omega) (Nat.le_trans hs.2.2 (by omega)))
  have zi : (partT (fr (nb x) 0 (nd x))).size ≤ 70368744177664 := partT_size (fr_sz (nd_ne0 x) (Nat.le_trans hs.2.1 (by omega)) (by show ln 0 ≤ _; rw [ln_zero]; omega) (Nat.le_trans hs.2.2 (by omega)))
  have y1 : ¬ (9223372036854775807 < (partT (fr (nb x) 0 (nd x))).size + 1) := by omega
  have y2 : ¬ (9223372036854775807 < 1 + ((partT (fr (nb x) 0 (nd x))).size + 1)) := by omega
  have y3 : ¬ (9223372036854775807 < (partT (fr (na x) 0 (nd x))).size + ((partT (fr (nb x) 0 (nd x))).size + 1)) := by omega
  have y4 : ¬ (9223372036854775807 < (partT (fr (na x) 0 (nd x))).size + (1 + ((partT (fr (nb x) 0 (nd x))).size + 1))) := by omega
  rw [HT.out]
  clear h hs k m
  go_enter Tryz.func95, Tryz.ntmps95
  go_wp2_with fail
  obtain ⟨W, hW⟩ : ∃ W : World, W = (w.alloc (.cells #[.bool (sn (na x)), .slice A1 (ln (ab (na x))) (ln (ab (na x))), .bool (sn (nb x)), .slice A2 (ln (ab (nb x))) (ln (ab (nb x))), .slice A3 (ln (un x)) (ln (un x))] 30)) := ⟨_, rfl⟩
  have s0_0 : W.cell? ⟨w.heap.size, 0, none⟩ = some (.bool (sn (na x))) := by subst hW; go_simp
  have s0_1 : W.cell? ⟨w.heap.size, 1, none⟩ = some (.slice A1 (ln (ab (na x))) (ln (ab (na x)))) := by subst hW; go_simp
  have s0_2 : W.cell? ⟨w.heap.size, 2, none⟩ = some (.bool (sn (nb x))) := by subst hW; go_simp
  have s0_3 : W.cell? ⟨w.heap.size, 3, none⟩ = some (.slice A2 (ln (ab (nb x))) (ln (ab (nb x)))) := by subst hW; go_simp
  have s0_4 : W.cell? ⟨w.heap.size, 4, none⟩ = some (.slice A3 (ln (un x)) (ln (un x))) := by subst hW; go_simp
  have HW : Below w.heap.size w W := by subst hW; exact ((Below.refl w.heap.size w).alloc (Nat.le_refl _) _)
  have l0 : w.heap.size < W.heap.size := by subst hW; simp
  replace hx := hx.to HW
  rw [← hW]
  clear hW
  replace HW := Lib.hid HW
  refine (real_to x A1 A2 A3 _ (by exact hx) t1.out).mono ?_
  rintro e w1 ⟨rfl, hb1⟩
  replace s0_0 := keepc hb1 s0_0 l0
  replace s0_1 := keepc hb1 s0_1 l0
  replace s0_2 := keepc hb1 s0_2 l0
  replace s0_3 := keepc hb1 s0_3 l0
  replace s0_4 := keepc hb1 s0_4 l0
  replace l0 := Nat.lt_of_lt_of_le l0 hb1.size
  replace hx := hx.to hb1
  replace HW := Lib.hid (hstep HW hb1)
  clear hb1
  go_wp2_with fail
  have t2 : ((ln (ab (na x)) : Int) == 0) = false := by rw [beq_eq_false_iff_ne]; have h := hk.out; have := ln_pos (n := ab (na x)) (by unfold ab; omega); omega
  go_region_held3 (fun w' => w'.cell? ⟨w.heap.size, 0, none⟩ = some (.bool (sn (na x))) ∧ w'.cell? ⟨w.heap.size, 1, none⟩ = some (.slice A1 (ln (ab (na x))) (ln (ab (na x)))) ∧ w'.cell? ⟨w.heap.size, 2, none⟩ = some (.bool (sn (nb x))) ∧ w'.cell? ⟨w.heap.size, 3, none⟩ = some (.slice A2 (ln (ab (nb x))) (ln (ab (nb x)))) ∧ w'.cell? ⟨w.heap.size, 4, none⟩ = some (.slice A3 (ln (un x)) (ln (un x)))) (first | with_reducible exact ⟨s0_0, s0_1, s0_2, s0_3, s0_4⟩ | with_reducible exact ⟨s0_0, s0_1, s0_2, s0_3, s0_4⟩ | exact ⟨s0_0, s0_1, s0_2, s0_3, s0_4⟩) (first
    | (go_at_call 89; refine (den_any x A1 A2 A3 _ (by exact hx)).mono ?_; rintro e w2 ⟨D, rfl, hD, hb2⟩; have hb2 := undrew hb2; replace s0_0 := keepc hb2 s0_0 l0; replace s0_1 := keepc hb2 s0_1 l0; replace s0_2 := keepc hb2 s0_2 l0; replace s0_3 := keepc hb2 s0_3 l0; replace s0_4 := keepc hb2 s0_4 l0; replace l0 := Nat.lt_of_lt_of_le l0 hb2.size; replace hx := hx.to hb2; replace HW := Lib.hid (hstep HW hb2); clear hb2)
    | (go_at_call 156; refine (part_any (nb x) (nd x) A2 D _ (by exact hx.2.1) (by exact hD) (Nat.le_trans HS.out.2.1 (by omega)) (Nat.le_trans HS.out.2.2 (by omega)) (nd_ne0 x)).mono ?_; rintro e w3 ⟨rfl, hb3⟩; replace s0_0 := keepc hb3 s0_0 l0; replace s0_1 := keepc hb3 s0_1 l0; replace s0_2 := keepc hb3 s0_2 l0; replace s0_3 := keepc hb3 s0_3 l0; replace s0_4 := keepc hb3 s0_4 l0; replace l0 := Nat.lt_of_lt_of_le l0 hb3.size; replace hx := hx.to hb3; replace hD := hD.to hb3; replace HW := Lib.hid (hstep HW hb3); clear hb3; clear hD))
  have k2 := Lib.hid s0_2
  rw [hm.out] at s0_2
  go_wp2_with fail
  replace s0_2 := k2.out
  clear k2
  go_region_held3 (fun w' => w'.cell? ⟨w.heap.size, 0, none⟩ = some (.bool (sn (na x))) ∧ w'.cell? ⟨w.heap.size, 1, none⟩ = some (.slice A1 (ln (ab (na x))) (ln (ab (na x)))) ∧ w'.cell? ⟨w.heap.size, 2, none⟩ = some (.bool (sn (nb x))) ∧ w'.cell? ⟨w.heap.size, 3, none⟩ = some (.slice A2 (ln (ab (nb x))) (ln (ab (nb x)))) ∧ w'.cell? ⟨w.heap.size, 4, none⟩ = some (.slice A3 (ln (un x)) (ln (un x)))) (first | with_reducible exact ⟨s0_0, s0_1, s0_2, s0_3, s0_4⟩ | with_reducible exact ⟨s0_0, s0_1, s0_2, s0_3, s0_4⟩ | exact ⟨s0_0, s0_1, s0_2, s0_3, s0_4⟩) (first
    | (go_at_call 89; refine (den_any x A1 A2 A3 _ (by exact hx)).mono ?_; rintro e w4 ⟨D, rfl, hD, hb4⟩; have hb4 := undrew hb4; replace s0_0 := keepc hb4 s0_0 l0; replace s0_1 := keepc hb4 s0_1 l0; replace s0_2 := keepc hb4 s0_2 l0; replace s0_3 := keepc hb4 s0_3 l0; replace s0_4 := keepc hb4 s0_4 l0; replace l0 := Nat.lt_of_lt_of_le l0 hb4.size; replace hx := hx.to hb4; replace HW := Lib.hid (hstep HW hb4); clear hb4)
    | (go_at_call 156; refine (part_any (na x) (nd x) A1 D _ (by exact hx.1) (by exact hD) (Nat.le_trans HS.out.1 (by omega)) (Nat.le_trans HS.out.2.2 (by omega)) (nd_ne0 x)).mono ?_; rintro e w5 ⟨rfl, hb5⟩; replace s0_0 := keepc hb5 s0_0 l0; replace s0_1 := keepc hb5 s0_1 l0; replace s0_2 := keepc hb5 s0_2 l0; replace s0_3 := keepc hb5 s0_3 l0; replace s0_4 := keepc hb5 s0_4 l0; replace l0 := Nat.lt_of_lt_of_le l0 hb5.size; replace hx := hx.to hb5; replace hD := hD.to hb5; replace HW := Lib.hid (hstep HW hb5); clear hb5; clear hD))
  go_wp2_with fail
  go_ret
  exact ⟨by first | rfl | (unfold imT; simp [ByteArray.append_assoc]), HW.out⟩

set_option maxHeartbeats 4000000 in
theorem text_plus (x : Cx) (A1 A2 A3 : Option Addr) (w : World) (hx : Num3 w A1 A2 A3 x) (hs : sz 274877906944 x) (h : nb x ≠ 0) (k : na x ≠ 0) (m : sn (nb x) = false) :
    Calls Tryz.prog 95 #[.agg #[.bool (sn (na x)), .slice A1 (ln (ab (na x))) (ln (ab (na x))), .bool (sn (nb x)), .slice A2 (ln (ab (nb x))) (ln (ab (nb x))), .slice A3 (ln (un x)) (ln (un x))]] w (RetStr w (textT x)) := by
  have HS : Hid (sz 274877906944 x) := Lib.hid hs
  have HT : Hid (textT x = partT (fr (na x) 0 (nd x)) ++ (⟨#[43]⟩ ++ imT x)) := Lib.hid (by unfold textT; simp [h, k, m])
  have t1 : Hid (decide (nb x = 0) = false) := Lib.hid (decide_eq_false h)
  have hk := Lib.hid k
  have hm := Lib.hid m
  have zr : (partT (fr (na x) 0 (nd x))).size ≤ 70368744177664 := partT_size (fr_sz (nd_ne0 x) (Nat.le_trans hs.1 (by omega)) (by show ln 0 ≤ _; rw [ln_zero]; omega) (Nat.le_trans hs.2.2 (by omega)))
  have zi : (partT (fr (nb x) 0 (nd x))).size ≤ 70368744177664 := partT_size (fr_sz (nd_ne0 x) (Nat.le_trans hs.2.1 (by omega)) (by show ln 0 ≤ _; rw [ln_zero]; omega) (Nat.le_trans hs.2.2 (by omega)))
  have y1 : ¬ (9223372036854775807 < (partT (fr (nb x) 0 (nd x))).size + 1) := by omega
  have y2 : ¬ (9223372036854775807 < 1 + ((partT (fr (nb x) 0 (nd x))).size + 1)) := by omega
  have y3 : ¬ (9223372036854775807 < (partT (fr (na x) 0 (nd x))).size + ((partT (fr (nb x) 0 (nd x))).size + 1)) := by omega
  have y4 : ¬ (9223372036854775807 < (partT (fr (na x) 0 (nd x))).size + (1 + ((partT (fr (nb x) 0 (nd x))).size + 1))) := by omega
  rw [HT.out]
  clear h hs k m
  go_enter Tryz.func95, Tryz.ntmps95
  go_wp2_with fail
  obtain ⟨W, hW⟩ : ∃ W : World, W = (w.alloc (.cells #[.bool (sn (na x)), .slice A1 (ln (ab (na x))) (ln (ab (na x))), .bool (sn (nb x)), .slice A2 (ln (ab (nb x))) (ln (ab (nb x))), .slice A3 (ln (un x)) (ln (un x))] 30)) := ⟨_, rfl⟩
  have s0_0 : W.cell? ⟨w.heap.size, 0, none⟩ = some (.bool (sn (na x))) := by subst hW; go_simp
  have s0_1 : W.cell? ⟨w.heap.size, 1, none⟩ = some (.slice A1 (ln (ab (na x))) (ln (ab (na x)))) := by subst hW; go_simp
  have s0_2 : W.cell? ⟨w.heap.size, 2, none⟩ = some (.bool (sn (nb x))) := by subst hW; go_simp
  have s0_3 : W.cell? ⟨w.heap.size, 3, none⟩ = some (.slice A2 (ln (ab (nb x))) (ln (ab (nb x)))) := by subst hW; go_simp
  have s0_4 : W.cell? ⟨w.heap.size, 4, none⟩ = some (.slice A3 (ln (un x)) (ln (un x))) := by subst hW; go_simp
  have HW : Below w.heap.size w W := by subst hW; exact ((Below.refl w.heap.size w).alloc (Nat.le_refl _) _)
  have l0 : w.heap.size < W.heap.size := by subst hW; simp
  replace hx := hx.to HW
  rw [← hW]
  clear hW
  replace HW := Lib.hid HW
  refine (real_to x A1 A2 A3 _ (by exact hx) t1.out).mono ?_
  rintro e w1 ⟨rfl, hb1⟩
  replace s0_0 := keepc hb1 s0_0 l0
  replace s0_1 := keepc hb1 s0_1 l0
  replace s0_2 := keepc hb1 s0_2 l0
  replace s0_3 := keepc hb1 s0_3 l0
  replace s0_4 := keepc hb1 s0_4 l0
  replace l0 := Nat.lt_of_lt_of_le l0 hb1.size
  replace hx := hx.to hb1
  replace HW := Lib.hid (hstep HW hb1)
  clear hb1
  go_wp2_with fail
  have t2 : ((ln (ab (na x)) : Int) == 0) = false := by rw [beq_eq_false_iff_ne]; have h := hk.out; have := ln_pos (n := ab (na x)) (by unfold ab; omega); omega
  go_region_held3 (fun w' => w'.cell? ⟨w.heap.size, 0, none⟩ = some (.bool (sn (na x))) ∧ w'.cell? ⟨w.heap.size, 1, none⟩ = some (.slice A1 (ln (ab (na x))) (ln (ab (na x)))) ∧ w'.cell? ⟨w.heap.size, 2, none⟩ = some (.bool (sn (nb x))) ∧ w'.cell? ⟨w.heap.size, 3, none⟩ = some (.slice A2 (ln (ab (nb x))) (ln (ab (nb x)))) ∧ w'.cell? ⟨w.heap.size, 4, none⟩ = some (.slice A3 (ln (un x)) (ln (un x)))) (first | with_reducible exact ⟨s0_0, s0_1, s0_2, s0_3, s0_4⟩ | with_reducible exact ⟨s0_0, s0_1, s0_2, s0_3, s0_4⟩ | exact ⟨s0_0, s0_1, s0_2, s0_3, s0_4⟩) (first
    | (go_at_call 89; refine (den_any x A1 A2 A3 _ (by exact hx)).mono ?_; rintro e w2 ⟨D, rfl, hD, hb2⟩; have hb2 := undrew hb2; replace s0_0 := keepc hb2 s0_0 l0; replace s0_1 := keepc hb2 s0_1 l0; replace s0_2 := keepc hb2 s0_2 l0; replace s0_3 := keepc hb2 s0_3 l0; replace s0_4 := keepc hb2 s0_4 l0; replace l0 := Nat.lt_of_lt_of_le l0 hb2.size; replace hx := hx.to hb2; replace HW := Lib.hid (hstep HW hb2); clear hb2)
    | (go_at_call 156; refine (part_any (nb x) (nd x) A2 D _ (by exact hx.2.1) (by exact hD) (Nat.le_trans HS.out.2.1 (by omega)) (Nat.le_trans HS.out.2.2 (by omega)) (nd_ne0 x)).mono ?_; rintro e w3 ⟨rfl, hb3⟩; replace s0_0 := keepc hb3 s0_0 l0; replace s0_1 := keepc hb3 s0_1 l0; replace s0_2 := keepc hb3 s0_2 l0; replace s0_3 := keepc hb3 s0_3 l0; replace s0_4 := keepc hb3 s0_4 l0; replace l0 := Nat.lt_of_lt_of_le l0 hb3.size; replace hx := hx.to hb3; replace hD := hD.to hb3; replace HW := Lib.hid (hstep HW hb3); clear hb3; clear hD))
  have k2 := Lib.hid s0_2
  rw [hm.out] at s0_2
  go_wp2_with fail
  replace s0_2 := k2.out
  clear k2
  go_region_held3 (fun w' => w'.cell? ⟨w.heap.size, 0, none⟩ = some (.bool (sn (na x))) ∧ w'.cell? ⟨w.heap.size, 1, none⟩ = some (.slice A1 (ln (ab (na x))) (ln (ab (na x)))) ∧ w'.cell? ⟨w.heap.size, 2, none⟩ = some (.bool (sn (nb x))) ∧ w'.cell? ⟨w.heap.size, 3, none⟩ = some (.slice A2 (ln (ab (nb x))) (ln (ab (nb x)))) ∧ w'.cell? ⟨w.heap.size, 4, none⟩ = some (.slice A3 (ln (un x)) (ln (un x)))) (first | with_reducible exact ⟨s0_0, s0_1, s0_2, s0_3, s0_4⟩ | with_reducible exact ⟨s0_0, s0_1, s0_2, s0_3, s0_4⟩ | exact ⟨s0_0, s0_1, s0_2, s0_3, s0_4⟩) (first
    | (go_at_call 89; refine (den_any x A1 A2 A3 _ (by exact hx)).mono ?_; rintro e w4 ⟨D, rfl, hD, hb4⟩; have hb4 := undrew hb4; replace s0_0 := keepc hb4 s0_0 l0; replace s0_1 := keepc hb4 s0_1 l0; replace s0_2 := keepc hb4 s0_2 l0; replace s0_3 := keepc hb4 s0_3 l0; replace s0_4 := keepc hb4 s0_4 l0; replace l0 := Nat.lt_of_lt_of_le l0 hb4.size; replace hx := hx.to hb4; replace HW := Lib.hid (hstep HW hb4); clear hb4)
    | (go_at_call 156; refine (part_any (na x) (nd x) A1 D _ (by exact hx.1) (by exact hD) (Nat.le_trans HS.out.1 (by omega)) (Nat.le_trans HS.out.2.2 (by omega)) (nd_ne0 x)).mono ?_; rintro e w5 ⟨rfl, hb5⟩; replace s0_0 := keepc hb5 s0_0 l0; replace s0_1 := keepc hb5 s0_1 l0; replace s0_2 := keepc hb5 s0_2 l0; replace s0_3 := keepc hb5 s0_3 l0; replace s0_4 := keepc hb5 s0_4 l0; replace l0 := Nat.lt_of_lt_of_le l0 hb5.size; replace hx := hx.to hb5; replace hD := hD.to hb5; replace HW := Lib.hid (hstep HW hb5); clear hb5; clear hD))
  go_wp2_with fail
  go_ret
  exact ⟨by first | rfl | (unfold imT; simp [ByteArray.append_assoc]), HW.out⟩

theorem text_any (x : Cx) (A1 A2 A3 : Option Addr) (w : World) (hx : Num3 w A1 A2 A3 x) (hs : sz 274877906944 x) :
    Calls Tryz.prog 95 #[.agg #[.bool (sn (na x)), .slice A1 (ln (ab (na x))) (ln (ab (na x))), .bool (sn (nb x)), .slice A2 (ln (ab (nb x))) (ln (ab (nb x))), .slice A3 (ln (un x)) (ln (un x))]] w (RetStr w (textT x)) := by
  by_cases h : nb x = 0
  · exact text_real x A1 A2 A3 w hx hs h
  · by_cases k : na x = 0
    · exact text_imag x A1 A2 A3 w hx hs h k
    · cases m : sn (nb x) with
      | true => have := text_minus x A1 A2 A3 w hx hs h k m; rwa [m] at this
      | false => have := text_plus x A1 A2 A3 w hx hs h k m; rwa [m] at this

end Go.Proofs.YtgpmlhpgdalheaaGreat
