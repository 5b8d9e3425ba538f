/- The reference: 'NatDiv' and 'NatGcd'. Conditions: at most 2^40 words each, the divisor is not 0. The reference: integers of a sign and a number in words: signed, IntOf, IntNeg; its numbers in memory. The reference: Make. -/
import Derived.Test.YtgpmlhpgdalheaaGreatRE
import Derived.Test.YtgpmlhpgdalheaaGreatGcd
import Derived.Test.YtgpmlhpgdalheaaGreatNum5
namespace Go.Proofs.YtgpmlhpgdalheaaGreat
open Go.RowKit Pl
set_option linter.unusedVariables false
set_option linter.unusedSimpArgs false

set_option maxRecDepth 100000 in
set_option maxHeartbeats 1000000 in
/-- 'NatDiv(x, y)', y not 0. -/
theorem rdiv_any (x y : Nat) (A B : Option Addr) (c d : Nat) (w : World) (hx : Nat32 w A x) (hy : Nat32 w B y) (hbx : ln x ≤ 1099511627776) (hby : ln y ≤ 1099511627776) (hy0 : y ≠ 0) :
    Calls Tryz.prog 164 #[.slice A (ln x) c, .slice B (ln y) d] w (RetNat2C w (x / y) (x % y)) := by
  rcases Nat.lt_or_ge x y with hlt | hle
  · have hcmp : decide (cmpN x y < 0) = true := by rw [cmpN_lt hlt]; rfl
    have hq : x / y = 0 := Nat.div_eq_of_lt hlt
    have hr : x % y = x := Nat.mod_eq_of_lt hlt
    rw [hq, hr]
    clear hq hr
    go_enter Tryz.func164, Tryz.ntmps164
    go_wp2_with fail
    refine (rcmp_any x y A B c d w hx hy (by omega)).mono ?_
    rintro e w1 ⟨rfl, hb1⟩
    have hx1 := hx.to hb1
    have HB := Lib.hid hb1
    clear hb1
    go_wp2_with fail
    go_ret2
    exact ⟨none, 0, A, c, by rw [ln_zero]; rfl, Nat32.zero _ _, hx1, HB.out⟩
  · by_cases hl2 : 2 ≤ ln y
    · exact rdiv_main x y A B c d w hx hy hbx hby hle hl2
    · have hl1 : ln y = 1 := by have := ln_pos hy0; omega
      have hcmp : decide (cmpN x y < 0) = false := by
        unfold cmpN; rw [if_neg (by omega)]; split <;> rfl
      have hyB : y < 4294967296 := by have := lt_ln y; rw [hl1] at this; simpa using this
      have hw0 : wd y 0 = y := by rw [wd_0, Nat.mod_eq_of_lt hyB]
      have t1 : ((ln y : Int) == 1) = true := by rw [hl1]; rfl
      have HW0 := Lib.hid hw0
      have hlp : 0 < ln y := by omega
      clear hw0 hl1
      go_enter Tryz.func164, Tryz.ntmps164
      go_wp2_with fail
      refine (rcmp_any x y A B c d w hx hy (by omega)).mono ?_
      rintro e w1 ⟨rfl, hb1⟩
      obtain ⟨b, rfl, hb, hcy⟩ := (hy.to hb1) hy0
      have hyc := hcy 0 (by omega)
      have hx1 := hx.to hb1
      have HB := Lib.hid hb1
      rw [HW0.out] at hyc
      clear hb1 hcy hy hx
      go_wp2_with fail
      refine (rdigit_any x y c A w1 hx1 (by omega) (by omega) hyB).mono ?_
      rintro e w2 ⟨AQ, cQ, rfl, hQ, hb2⟩
      have hmb : x % y < 18446744073709551616 := Nat.lt_trans (Nat.mod_lt _ (by omega)) (by omega)
      have HM := Lib.hid hmb
      have HB2 := Lib.hid (HB.out.trans (hb2.mono HB.out.size))
      obtain ⟨r, hr⟩ : ∃ r, r = x % y := ⟨_, rfl⟩
      rw [← hr] at HM ⊢
      clear hmb hb2 hyc
      have hrb : r < 4294967296 := by rw [hr]; exact Nat.lt_trans (Nat.mod_lt _ (by omega)) hyB
      have HR := Lib.hid hr
      clear hr
      go_wp2_with fail
      refine (rnatOf_any r HM.out w2).mono ?_
      rintro e w3 ⟨AR, cR, rfl, hR, hb3⟩
      go_wp2_with fail
      go_ret2
      rw [← HR.out]
      exact ⟨AQ, cQ, AR, cR, rfl, hQ.to hb3, hR, HB2.out.trans (hb3.mono HB2.out.size)⟩

set_option maxHeartbeats 1000000 in
/-- 'NatGcd(x, y)'. -/
theorem rgcd_any (x y : Nat) (A B : Option Addr) (c d : Nat) (w : World) (hx : Nat32 w A x) (hy : Nat32 w B y) (hbx : ln x ≤ 1099511627776) (hby : ln y ≤ 1099511627776) :
    Calls Tryz.prog 163 #[.slice A (ln x) c, .slice B (ln y) d] w (RetNatC w (Nat.gcd x y)) := by
  go_enter Tryz.func163, Tryz.ntmps163
  go_wp2_with fail
  go_loopg [0, 1] y (fun m u v wr => ∃ (a : Nat) (A B : Option Addr) (c d : Nat), u = .slice A (ln a) c ∧ v = .slice B (ln m) d ∧ Hid (Nat.gcd a m = Nat.gcd x y) ∧ ln a ≤ 1099511627776 ∧ ln m ≤ 1099511627776 ∧ Nat32 wr A a ∧ Nat32 wr B m ∧ Below w.heap.size w wr)
  case atStart => exact ⟨x, A, B, c, d, rfl, rfl, rfl, hbx, hby, hx, hy, Below.refl _ _⟩
  case round =>
    obtain ⟨a, A', B', c', d', rfl, rfl, hg, ha, hm, hA, hB, hb⟩ := hrel
    clear hx hy
    by_cases hm0 : gk = 0
    · have t1 : decide (0 < ln gk) = false := by rw [hm0, ln_zero]; rfl
      have HG := Lib.hid (show a = Nat.gcd x y by rw [← hg.out, hm0, Nat.gcd_zero_right])
      have HB := Lib.hid hb
      clear hm0 hb hg
      go_wp2_with fail
      go_ret
      rw [← HG.out]
      exact ⟨A', c', rfl, hA, HB.out⟩
    · have t1 : decide (0 < ln gk) = true := by have := ln_pos hm0; simpa using this
      have HB := Lib.hid hb
      clear hb
      go_wp2_with fail
      refine (rdiv_any a gk A' B' c' d' wr hA hB ha hm hm0).mono ?_
      rintro e w1 ⟨AQ, cQ, AR, cR, rfl, hQ, hR, hb1⟩
      have hB1 := hB.to hb1
      have hb2 := HB.out.trans (hb1.mono HB.out.size)
      have hrl : ln (a % gk) ≤ 1099511627776 := Nat.le_trans (ln_mono (Nat.mod_le _ _)) ha
      clear hb1
      go_wp2_with fail
      go_roundg (a % gk)
      case measure => exact Nat.mod_lt _ (by omega)
      case rel => exact ⟨gk, B', AR, d', cR, rfl, rfl, by
        show Nat.gcd gk (a % gk) = Nat.gcd x y
        rw [← hg.out, Nat.gcd_comm gk, ← Nat.gcd_rec, Nat.gcd_comm], hm, hrl, hB1, hR, hb2⟩

end Go.Proofs.YtgpmlhpgdalheaaGreat

namespace Go.Proofs.YtgpmlhpgdalheaaGreat
open Go.RowKit Pl
set_option linter.unusedVariables false
set_option linter.unusedSimpArgs false

/-- A call of the reference hands back an integer. -/
def RetWholeC (w : World) (z : Int) (e : Ending) (w' : World) : Prop := ∃ A c, e = .returned (.agg #[.bool (sn z), .slice A (ln (ab z)) c]) ∧ Nat32 w' A (ab z) ∧ Below w.heap.size w w'

theorem retWholeC_mk {w w' : World} {s : Bool} {n d : Nat} {A : Option Addr} (h : Nat32 w' A n) (hb : Below w.heap.size w w') (c : Bool) (hc : c = (s && decide (0 < ln n))) : RetWholeC w (zi s n) (.returned (.agg #[.bool c, .slice A (ln n) d])) w' := by
  refine ⟨A, d, ?_, by rw [zi_ab]; exact h, hb⟩
  rw [zi_ab, hc]
  by_cases hn : n = 0
  · subst hn; rw [zi_zero, sn_zero, ln_zero]; simp
  · rw [zi_sn s hn]; have := ln_pos hn; simp [this]

theorem retWholeC_fin {w W : World} {z : Int} {A : Option Addr} {R d : Nat} {c : Bool} (hB : Hid (Below w.heap.size w W)) (h1 : Nat32 W A (ab z)) (hR : w.heap.size ≤ R) (r0 : W.cell? ⟨R, 0, none⟩ = some (.bool c)) :
    RetWholeC w z (.returned (.agg #[.bool (sn z), .slice A (ln (ab z)) d])) ((W.setCell ⟨R, 0, none⟩ (.bool (sn z))).setCell ⟨R, 1, none⟩ (.slice A (ln (ab z)) d)) :=
  ⟨A, d, rfl, (h1.setBox r0 (by intro k m e; cases e)).setBox (cell_self r0) (by intro k m e; cases e), (hB.out.setCell (by exact hR) _).setCell (by exact hR) _⟩

def Num3C (w : World) (A1 A2 A3 : Option Addr) (q : Cx) : Prop := Nat32 w A1 (ab (na q)) ∧ Nat32 w A2 (ab (nb q)) ∧ Nat32 w A3 (nd q)
theorem Num3C.to {w w' : World} {A1 A2 A3 : Option Addr} {q : Cx} (h : Num3C w A1 A2 A3 q) (hb : Below w.heap.size w w') : Num3C w' A1 A2 A3 q := ⟨h.1.to hb, h.2.1.to hb, h.2.2.to hb⟩
theorem Num3C.setBox {w : World} {A1 A2 A3 : Option Addr} {q : Cx} {R i : Nat} {v u : Value} (h : Num3C w A1 A2 A3 q) (hv : w.cell? ⟨R, 0, none⟩ = some v) (hne : ∀ k m, v ≠ .int k m) : Num3C (w.setCell ⟨R, i, none⟩ u) A1 A2 A3 q :=
  ⟨h.1.setBox hv hne, h.2.1.setBox hv hne, h.2.2.setBox hv hne⟩

/-- A call of the reference hands back a number. -/
def RetNumC (w : World) (q : Cx) (e : Ending) (w' : World) : Prop := ∃ A1 A2 A3 c1 c2 c3, e = .returned (.agg #[.bool (sn (na q)), .slice A1 (ln (ab (na q))) c1, .bool (sn (nb q)), .slice A2 (ln (ab (nb q))) c2, .slice A3 (ln (nd q)) c3]) ∧ Num3C w' A1 A2 A3 q ∧ Below w.heap.size w w'

theorem retNumC_fin {w W : World} {q : Cx} {A1 A2 A3 : Option Addr} {R d1 d2 d3 : Nat} {c : Bool} (hB : Hid (Below w.heap.size w W)) (h1 : Num3C W A1 A2 A3 q) (hR : w.heap.size ≤ R) (r0 : W.cell? ⟨R, 0, none⟩ = some (.bool c)) :
    RetNumC w q (.returned (.agg #[.bool (sn (na q)), .slice A1 (ln (ab (na q))) d1, .bool (sn (nb q)), .slice A2 (ln (ab (nb q))) d2, .slice A3 (ln (nd q)) d3]))
      (((((W.setCell ⟨R, 0, none⟩ (.bool (sn (na q)))).setCell ⟨R, 1, none⟩ (.slice A1 (ln (ab (na q))) d1)).setCell ⟨R, 2, none⟩ (.bool (sn (nb q)))).setCell ⟨R, 3, none⟩ (.slice A2 (ln (ab (nb q))) d2)).setCell ⟨R, 4, none⟩ (.slice A3 (ln (nd q)) d3)) := by
  have c1 := cell_self (u := .bool (sn (na q))) r0
  have c2 := keepo (R := R) (j := 1) (u := .slice A1 (ln (ab (na q))) d1) c1 (by simp)
  have c3 := keepo (R := R) (j := 2) (u := .bool (sn (nb q))) c2 (by simp)
  have c4 := keepo (R := R) (j := 3) (u := .slice A2 (ln (ab (nb q))) d2) c3 (by simp)
  have nb : ∀ (b : Bool) k m, Value.bool b ≠ .int k m := by intro b k m e; cases e
  exact ⟨A1, A2, A3, d1, d2, d3, rfl, ((((h1.setBox r0 (nb _)).setBox c1 (nb _)).setBox c2 (nb _)).setBox c3 (nb _)).setBox c4 (nb _),
    ((((hB.out.setCell (by exact hR) _).setCell (by exact hR) _).setCell (by exact hR) _).setCell (by exact hR) _).setCell (by exact hR) _⟩

theorem iwrap_neg {n : Int} (h1 : -9223372036854775808 ≤ n) (h2 : n < 0) : IntKind.u64.wrap (wrap64 (-n)) = (ab n : Int) := by
  unfold ab; simp [wrap64, IntKind.wrap, IntKind.bits, IntKind.signed]; omega

set_option maxHeartbeats 400000 in
theorem rsigned_any (s : Bool) (n : Nat) (A : Option Addr) (c : Nat) (w : World) (h : Nat32 w A n) :
    Calls Tryz.prog 117 #[.bool s, .slice A (ln n) c] w (RetWholeC w (zi s n)) := by
  cases s
  · go_enter Tryz.func117, Tryz.ntmps117
    go_wp2_with fail
    exact bodyPost_ret (v := .agg #[.bool false, .slice A (ln n) c]) (by simp [results, Tryz.results117, go_sem]) rfl (retWholeC_mk (h.alloc _) ((Below.refl _ _).alloc (Nat.le_refl _) _) _ rfl)
  · by_cases hn : n = 0
    · have t : decide (0 < ln n) = false := by rw [hn, ln_zero]; rfl
      clear hn
      go_enter Tryz.func117, Tryz.ntmps117
      go_wp2_with fail
      exact bodyPost_ret (v := .agg #[.bool false, .slice A (ln n) c]) (by simp [results, Tryz.results117, go_sem]) rfl (retWholeC_mk (h.alloc _) ((Below.refl _ _).alloc (Nat.le_refl _) _) _ (by rw [t]; rfl))
    · have t : decide (0 < ln n) = true := by have := ln_pos hn; simpa using this
      clear hn
      go_enter Tryz.func117, Tryz.ntmps117
      go_wp2_with fail
      exact bodyPost_ret (v := .agg #[.bool true, .slice A (ln n) c]) (by simp [results, Tryz.results117, go_sem]) rfl (retWholeC_mk (h.alloc _) ((Below.refl _ _).alloc (Nat.le_refl _) _) _ (by rw [t]; rfl))

set_option maxHeartbeats 4000000 in
theorem rintOf_neg (n : Int) (w : World) (h1 : -9223372036854775808 ≤ n) (h2 : n < 0) :
    Calls Tryz.prog 126 #[.int .i64 n] w (RetWholeC w n) := by
  have E := Lib.hid (iwrap_neg h1 h2)
  have B : Hid (ab n < 18446744073709551616) := Lib.hid (by unfold ab; omega)
  have T : Hid (sn n = true) := Lib.hid (by unfold sn; rw [decide_eq_true_eq]; omega)
  have t0 : decide (n < 0) = true := T.out
  clear h1 h2
  go_enter Tryz.func126, Tryz.ntmps126
  go_wp2_with fail
  obtain ⟨W, hW⟩ : ∃ W : World, W = (w.alloc (.cells #[.bool false, .slice none 0 0] 32)) := ⟨_, rfl⟩
  have r0 : W.cell? ⟨w.heap.size, 0, none⟩ = some (.bool false) := by subst hW; go_simp
  have f0 : W.frozen? ⟨w.heap.size, 0, none⟩ = false := by subst hW; go_simp
  have r1 : W.cell? ⟨w.heap.size, 1, none⟩ = some (.slice none 0 0) := by subst hW; go_simp
  have f1 : W.frozen? ⟨w.heap.size, 1, none⟩ = false := by subst hW; go_simp
  have HW : Below w.heap.size w W := by subst hW; exact ((Below.refl w.heap.size w).alloc (Nat.le_refl _) _)
  have l0 : w.heap.size < W.heap.size := by subst hW; simp
  rw [← hW]
  clear hW
  replace HW := Lib.hid HW
  rw [E.out]
  refine (rnatOf_any (ab n) B.out _).mono ?_
  rintro e w1 ⟨A1, cA1, rfl, h1, hb1⟩
  replace r0 := keepc hb1 r0 l0
  replace f0 := keepf hb1 f0 l0
  replace r1 := keepc hb1 r1 l0
  replace f1 := keepf hb1 f1 l0
  replace l0 := Nat.lt_of_lt_of_le l0 hb1.size
  replace HW := Lib.hid (hstep HW hb1)
  clear hb1
  go_wp2_with fail
  have t := T.out
  exact bodyPost_ret (v := .agg #[.bool true, .slice A1 (ln (ab n)) cA1]) (by simp [results, Tryz.results126, go_sem, r0, r1, f0, f1]) rfl (by have := retWholeC_fin (d := cA1) HW h1 (by omega) r0; rw [t] at this; exact this)

set_option maxHeartbeats 4000000 in
theorem rintOf_pos (n : Int) (w : World) (h1 : n ≤ 9223372036854775807) (h2 : 0 ≤ n) :
    Calls Tryz.prog 126 #[.int .i64 n] w (RetWholeC w n) := by
  have E := Lib.hid (wrap_pos h1 h2)
  have B : Hid (ab n < 18446744073709551616) := Lib.hid (by unfold ab; omega)
  have T : Hid (sn n = false) := Lib.hid (by unfold sn; rw [decide_eq_false_iff_not]; omega)
  have t0 : decide (n < 0) = false := T.out
  clear h1 h2
  go_enter Tryz.func126, Tryz.ntmps126
  go_wp2_with fail
  obtain ⟨W, hW⟩ : ∃ W : World, W = (w.alloc (.cells #[.bool false, .slice none 0 0] 32)) := ⟨_, rfl⟩
  have r0 : W.cell? ⟨w.heap.size, 0, none⟩ = some (.bool false) := by subst hW; go_simp
  have f0 : W.frozen? ⟨w.heap.size, 0, none⟩ = false := by subst hW; go_simp
  have r1 : W.cell? ⟨w.heap.size, 1, none⟩ = some (.slice none 0 0) := by subst hW; go_simp
  have f1 : W.frozen? ⟨w.heap.size, 1, none⟩ = false := by subst hW; go_simp
  have HW : Below w.heap.size w W := by subst hW; exact ((Below.refl w.heap.size w).alloc (Nat.le_refl _) _)
  have l0 : w.heap.size < W.heap.size := by subst hW; simp
  rw [← hW]
  clear hW
  replace HW := Lib.hid HW
  rw [E.out]
  refine (rnatOf_any (ab n) B.out _).mono ?_
  rintro e w1 ⟨A1, cA1, rfl, h1, hb1⟩
  replace r0 := keepc hb1 r0 l0
  replace f0 := keepf hb1 f0 l0
  replace r1 := keepc hb1 r1 l0
  replace f1 := keepf hb1 f1 l0
  replace l0 := Nat.lt_of_lt_of_le l0 hb1.size
  replace HW := Lib.hid (hstep HW hb1)
  clear hb1
  go_wp2_with fail
  have t := T.out
  exact bodyPost_ret (v := .agg #[.bool false, .slice A1 (ln (ab n)) cA1]) (by simp [results, Tryz.results126, go_sem, r0, r1, f0, f1]) rfl (by have := retWholeC_fin (d := cA1) HW h1 (by omega) r0; rw [t] at this; exact this)

/-- 'IntOf(n)'. -/
theorem rintOf_any (n : Int) (w : World) (h1 : -9223372036854775808 ≤ n) (h2 : n ≤ 9223372036854775807) :
    Calls Tryz.prog 126 #[.int .i64 n] w (RetWholeC w n) := by
  by_cases h : n < 0
  · exact rintOf_neg n w h1 h
  · exact rintOf_pos n w h2 (by omega)

set_option maxHeartbeats 4000000 in
theorem rintNeg_any (z : Int) (A : Option Addr) (cA : Nat) (w : World) (hx : Nat32 w A (ab z)) :
    Calls Tryz.prog 107 #[.agg #[.bool (sn (z)), .slice A (ln (ab (z))) cA]] w (RetWholeC w (-z)) := by
  rw [← minus_val]
  go_enter Tryz.func107, Tryz.ntmps107
  go_wp2_with fail
  obtain ⟨W, hW⟩ : ∃ W : World, W = ((w.alloc (.cells #[.bool (sn (z)), .slice A (ln (ab (z))) cA] 32)).alloc (.cells #[.bool false, .slice none 0 0] 32)) := ⟨_, rfl⟩
  have s0_0 : W.cell? ⟨w.heap.size, 0, none⟩ = some (.bool (sn (z))) := by subst hW; go_simp
  have s0_1 : W.cell? ⟨w.heap.size, 1, none⟩ = some (.slice A (ln (ab (z))) cA) := by subst hW; go_simp
  have r0 : W.cell? ⟨w.heap.size + 1, 0, none⟩ = some (.bool false) := by subst hW; go_simp
  have f0 : W.frozen? ⟨w.heap.size + 1, 0, none⟩ = false := by subst hW; go_simp
  have r1 : W.cell? ⟨w.heap.size + 1, 1, none⟩ = some (.slice none 0 0) := by subst hW; go_simp
  have f1 : W.frozen? ⟨w.heap.size + 1, 1, none⟩ = false := by subst hW; go_simp
  have HW : Below w.heap.size w W := by subst hW; exact (((Below.refl w.heap.size w).alloc (Nat.le_refl _) _).alloc (by simp) _)
  have l0 : w.heap.size < W.heap.size := by subst hW; simp <;> omega
  have l1 : w.heap.size + 1 < W.heap.size := by subst hW; simp
  have n0 : w.heap.size ≠ w.heap.size + 1 := by omega
  replace hx := hx.to HW
  rw [← hW]
  clear hW
  replace HW := Lib.hid HW
  refine (rsigned_any (!sn z) (ab z) A cA _ (by exact hx)).mono ?_
  rintro e w1 ⟨A1, cA1, rfl, h1, hb1⟩
  replace s0_0 := keepc hb1 s0_0 l0
  replace s0_1 := keepc hb1 s0_1 l0
  replace r0 := keepc hb1 r0 l1
  replace f0 := keepf hb1 f0 l1
  replace r1 := keepc hb1 r1 l1
  replace f1 := keepf hb1 f1 l1
  replace l0 := Nat.lt_of_lt_of_le l0 hb1.size
  replace l1 := Nat.lt_of_lt_of_le l1 hb1.size
  replace hx := hx.to hb1
  replace HW := Lib.hid (hstep HW hb1)
  clear hb1
  go_wp2_with fail
  exact bodyPost_ret (v := .agg #[.bool (sn (zi (!sn z) (ab z))), .slice A1 (ln (ab (zi (!sn z) (ab z)))) cA1]) (by simp [results, Tryz.results107, go_sem, r0, r1, f0, f1]) rfl (retWholeC_fin HW h1 (by omega) r0)

end Go.Proofs.YtgpmlhpgdalheaaGreat

namespace Go.Proofs.YtgpmlhpgdalheaaGreat
open Go.RowKit Pl
set_option linter.unusedVariables false
set_option linter.unusedSimpArgs false

theorem rsigned_z {z : Int} {s : Bool} {n : Nat} (hz : zi s n = z) (A : Option Addr) (c : Nat) (w : World) (h : Nat32 w A n) :
    Calls Tryz.prog 117 #[.bool s, .slice A (ln n) c] w (RetWholeC w z) := by
  subst hz; exact rsigned_any s n A c w h

theorem one_len {g : Nat} (h : g = 1) : ((ln g : Int) == 1) = true := by
  have h1 := ln_le (n := g) (k := 1) (by omega)
  have h2 := ln_pos (show g ≠ 0 by omega)
  rw [beq_iff_eq]; omega
theorem one_wd {g : Nat} (h : g = 1) : ((wd g 0 : Int) == 1) = true := by rw [wd_0, h]; rfl
theorem few_wd {g : Nat} (h : g ≠ 1) (hl : ln g = 1) : ((wd g 0 : Int) == 1) = false := by
  have h1 := lt_ln g
  rw [hl] at h1
  have e : wd g 0 = g := by rw [wd_0, Nat.mod_eq_of_lt (by simpa using h1)]
  rw [e, beq_eq_false_iff_ne]; omega
theorem make_forms {a b : Int} {d : Nat} (hd : d ≠ 0) : zi (sn a) (ab a / gg a b d) = na (fr a b d) ∧ zi (sn b) (ab b / gg a b d) = nb (fr a b d) ∧ d / gg a b d = nd (fr a b d) := by
  obtain ⟨f1, f2, f3, f4, f5⟩ := over_form (a := a) (b := b) hd
  refine ⟨?_, ?_, f5.symm⟩
  · rw [← f2, ← f1, zi_self]
  · rw [← f4, ← f3, zi_self]
theorem make_one {a b : Int} {d : Nat} (hd : d ≠ 0) (h : gg a b d = 1) : na (fr a b d) = a ∧ nb (fr a b d) = b ∧ nd (fr a b d) = d := by
  obtain ⟨f1, f2, f3⟩ := make_forms (a := a) (b := b) hd
  rw [h, Nat.div_one] at f1 f2 f3
  rw [zi_self] at f1 f2
  exact ⟨f1.symm, f2.symm, f3.symm⟩

set_option maxHeartbeats 4000000 in
theorem rmake_one (a b : Int) (d : Nat) (A B D : Option Addr) (cA cB cD : Nat) (w : World) (hx : Nat32 w A (ab a)) (hy : Nat32 w B (ab b)) (hd : Nat32 w D d) (hbx : ln (ab a) ≤ 1099511627776) (hby : ln (ab b) ≤ 1099511627776) (hbd : ln d ≤ 1099511627776) (hd0 : d ≠ 0) (g : Nat) (hg : g = gg a b d) (hg1 : g = 1) :
    Calls Tryz.prog 100 #[.agg #[.bool (sn (a)), .slice A (ln (ab (a))) cA], .agg #[.bool (sn (b)), .slice B (ln (ab (b))) cB], .slice D (ln d) cD] w (RetNumC w (fr a b d)) := by
  have g0 : 0 < g := by rw [hg]; exact gg_pos a b (by omega)
  have HG := Lib.hid hg
  have hgl : ln g ≤ 1099511627776 := Nat.le_trans (ln_mono (Nat.le_of_dvd (by omega) (by rw [hg]; exact (gg_dvd a b d).2.2))) hbd
  have lg0 := ln_pos (show g ≠ 0 by omega)
  have T1 : Hid (((ln g : Int) == 1) = true) := Lib.hid (one_len hg1)
  have T2 : Hid (((wd g 0 : Int) == 1) = true) := Lib.hid (one_wd hg1)
  have HQ := Lib.hid (make_one hd0 (by rw [← hg]; exact hg1))
  clear hg hg1
  obtain ⟨q, hq⟩ : ∃ q, q = fr a b d := ⟨_, rfl⟩
  rw [← hq] at HQ ⊢
  clear hq
  go_enter Tryz.func100, Tryz.ntmps100
  go_wp2_with fail
  obtain ⟨W, hW⟩ : ∃ W : World, W = (((w.alloc (.cells #[.bool (sn (a)), .slice A (ln (ab (a))) cA] 32)).alloc (.cells #[.bool (sn (b)), .slice B (ln (ab (b))) cB] 32)).alloc (.cells #[.bool false, .slice none 0 0, .bool false, .slice none 0 0, .slice none 0 0] 34)) := ⟨_, rfl⟩
  have s0_0 : W.cell? ⟨w.heap.size, 0, none⟩ = some (.bool (sn (a))) := by subst hW; go_simp
  have g0_0 : W.frozen? ⟨w.heap.size, 0, none⟩ = false := by subst hW; go_simp
  have s0_1 : W.cell? ⟨w.heap.size, 1, none⟩ = some (.slice A (ln (ab (a))) cA) := by subst hW; go_simp
  have g0_1 : W.frozen? ⟨w.heap.size, 1, none⟩ = false := by subst hW; go_simp
  have s1_0 : W.cell? ⟨w.heap.size + 1, 0, none⟩ = some (.bool (sn (b))) := by subst hW; go_simp
  have g1_0 : W.frozen? ⟨w.heap.size + 1, 0, none⟩ = false := by subst hW; go_simp
  have s1_1 : W.cell? ⟨w.heap.size + 1, 1, none⟩ = some (.slice B (ln (ab (b))) cB) := by subst hW; go_simp
  have g1_1 : W.frozen? ⟨w.heap.size + 1, 1, none⟩ = false := by subst hW; go_simp
  have r0 : W.cell? ⟨w.heap.size + 1 + 1, 0, none⟩ = some (.bool false) := by subst hW; go_simp
  have f0 : W.frozen? ⟨w.heap.size + 1 + 1, 0, none⟩ = false := by subst hW; go_simp
  have r1 : W.cell? ⟨w.heap.size + 1 + 1, 1, none⟩ = some (.slice none 0 0) := by subst hW; go_simp
  have f1 : W.frozen? ⟨w.heap.size + 1 + 1, 1, none⟩ = false := by subst hW; go_simp
  have r2 : W.cell? ⟨w.heap.size + 1 + 1, 2, none⟩ = some (.bool false) := by subst hW; go_simp
  have f2 : W.frozen? ⟨w.heap.size + 1 + 1, 2, none⟩ = false := by subst hW; go_simp
  have r3 : W.cell? ⟨w.heap.size + 1 + 1, 3, none⟩ = some (.slice none 0 0) := by subst hW; go_simp
  have f3 : W.frozen? ⟨w.heap.size + 1 + 1, 3, none⟩ = false := by subst hW; go_simp
  have r4 : W.cell? ⟨w.heap.size + 1 + 1, 4, none⟩ = some (.slice none 0 0) := by subst hW; go_simp
  have f4 : W.frozen? ⟨w.heap.size + 1 + 1, 4, none⟩ = false := by subst hW; go_simp
  have HW : Below w.heap.size w W := by subst hW; exact ((((Below.refl w.heap.size w).alloc (Nat.le_refl _) _).alloc (by simp) _).alloc (by simp; omega) _)
  have l0 : w.heap.size < W.heap.size := by subst hW; simp <;> omega
  have l1 : w.heap.size + 1 < W.heap.size := by subst hW; simp <;> omega
  have l2 : w.heap.size + 1 + 1 < W.heap.size := by subst hW; simp
  have n0 : w.heap.size ≠ w.heap.size + 1 + 1 := by omega
  have n1 : w.heap.size + 1 ≠ w.heap.size + 1 + 1 := by omega
  replace hx := hx.to HW
  replace hy := hy.to HW
  replace hd := hd.to HW
  rw [← hW]
  clear hW
  replace HW := Lib.hid HW
  refine (rgcd_any (ab a) (ab b) A B cA cB _ (by exact hx) (by exact hy) hbx hby).mono ?_
  rintro e w1 ⟨A1, c1, rfl, h1, hb1⟩
  replace s0_0 := keepc hb1 s0_0 l0
  replace g0_0 := keepf hb1 g0_0 l0
  replace s0_1 := keepc hb1 s0_1 l0
  replace g0_1 := keepf hb1 g0_1 l0
  replace s1_0 := keepc hb1 s1_0 l1
  replace g1_0 := keepf hb1 g1_0 l1
  replace s1_1 := keepc hb1 s1_1 l1
  replace g1_1 := keepf hb1 g1_1 l1
  replace r0 := keepc hb1 r0 l2
  replace f0 := keepf hb1 f0 l2
  replace r1 := keepc hb1 r1 l2
  replace f1 := keepf hb1 f1 l2
  replace r2 := keepc hb1 r2 l2
  replace f2 := keepf hb1 f2 l2
  replace r3 := keepc hb1 r3 l2
  replace f3 := keepf hb1 f3 l2
  replace r4 := keepc hb1 r4 l2
  replace f4 := keepf hb1 f4 l2
  replace l0 := Nat.lt_of_lt_of_le l0 hb1.size
  replace l1 := Nat.lt_of_lt_of_le l1 hb1.size
  replace l2 := Nat.lt_of_lt_of_le l2 hb1.size
  replace hx := hx.to hb1
  replace hy := hy.to hb1
  replace hd := hd.to hb1
  replace HW := Lib.hid (hstep HW hb1)
  clear hb1
  go_wp2_with fail
  have hl1 : ln (Nat.gcd (ab a) (ab b)) ≤ 1099511627776 := gcd_ln hbx hby
  refine (rgcd_any (Nat.gcd (ab a) (ab b)) d A1 D c1 cD _ (by exact h1) (by exact hd) hl1 hbd).mono ?_
  rintro e w2 ⟨A2, c2, rfl, h2, hb2⟩
  replace s0_0 := keepc hb2 s0_0 l0
  replace g0_0 := keepf hb2 g0_0 l0
  replace s0_1 := keepc hb2 s0_1 l0
  replace g0_1 := keepf hb2 g0_1 l0
  replace s1_0 := keepc hb2 s1_0 l1
  replace g1_0 := keepf hb2 g1_0 l1
  replace s1_1 := keepc hb2 s1_1 l1
  replace g1_1 := keepf hb2 g1_1 l1
  replace r0 := keepc hb2 r0 l2
  replace f0 := keepf hb2 f0 l2
  replace r1 := keepc hb2 r1 l2
  replace f1 := keepf hb2 f1 l2
  replace r2 := keepc hb2 r2 l2
  replace f2 := keepf hb2 f2 l2
  replace r3 := keepc hb2 r3 l2
  replace f3 := keepf hb2 f3 l2
  replace r4 := keepc hb2 r4 l2
  replace f4 := keepf hb2 f4 l2
  replace l0 := Nat.lt_of_lt_of_le l0 hb2.size
  replace l1 := Nat.lt_of_lt_of_le l1 hb2.size
  replace l2 := Nat.lt_of_lt_of_le l2 hb2.size
  replace hx := hx.to hb2
  replace hy := hy.to hb2
  replace hd := hd.to hb2
  replace h1 := h1.to hb2
  replace HW := Lib.hid (hstep HW hb2)
  clear hb2
  rw [show Nat.gcd (Nat.gcd (ab a) (ab b)) d = g from HG.out.symm] at h2 ⊢
  obtain ⟨bg, hA2, hbg, hcg⟩ := id h2 (by omega)
  subst hA2
  have hgc := hcg 0 lg0
  have t1 := T1.out
  have t2 := T2.out
  clear hcg hbg
  go_wp2_with fail
  refine bodyPost_ret (v := .agg #[.bool (sn a), .slice A (ln (ab a)) cA, .bool (sn b), .slice B (ln (ab b)) cB, .slice D (ln d) cD]) (by simp [results, Tryz.results100, go_sem, r0, r1, r2, r3, r4, f0, f1, f2, f3, f4]) rfl ?_
  have h := retNumC_fin (q := q) (A1 := A) (A2 := B) (A3 := D) (d1 := cA) (d2 := cB) (d3 := cD) HW ⟨by rw [HQ.out.1]; exact hx, by rw [HQ.out.2.1]; exact hy, by rw [HQ.out.2.2]; exact hd⟩ (by omega) r0
  rw [HQ.out.1, HQ.out.2.1, HQ.out.2.2] at h
  exact h

set_option maxHeartbeats 4000000 in
theorem rmake_few (a b : Int) (d : Nat) (A B D : Option Addr) (cA cB cD : Nat) (w : World) (hx : Nat32 w A (ab a)) (hy : Nat32 w B (ab b)) (hd : Nat32 w D d) (hbx : ln (ab a) ≤ 1099511627776) (hby : ln (ab b) ≤ 1099511627776) (hbd : ln d ≤ 1099511627776) (hd0 : d ≠ 0) (g : Nat) (hg : g = gg a b d) (hg1 : g ≠ 1) (hl : ln g = 1) :
    Calls Tryz.prog 100 #[.agg #[.bool (sn (a)), .slice A (ln (ab (a))) cA], .agg #[.bool (sn (b)), .slice B (ln (ab (b))) cB], .slice D (ln d) cD] w (RetNumC w (fr a b d)) := by
  have g0 : 0 < g := by rw [hg]; exact gg_pos a b (by omega)
  have HG := Lib.hid hg
  have hgl : ln g ≤ 1099511627776 := Nat.le_trans (ln_mono (Nat.le_of_dvd (by omega) (by rw [hg]; exact (gg_dvd a b d).2.2))) hbd
  have lg0 := ln_pos (show g ≠ 0 by omega)
  have T1 : Hid (((ln g : Int) == 1) = true) := Lib.hid (by rw [hl]; rfl)
  have T2 : Hid (((wd g 0 : Int) == 1) = false) := Lib.hid (few_wd hg1 hl)
  have HZ := Lib.hid (make_forms (a := a) (b := b) hd0)
  rw [← hg] at HZ
  clear hg hg1 hl
  obtain ⟨q, hq⟩ : ∃ q, q = fr a b d := ⟨_, rfl⟩
  rw [← hq] at HZ ⊢
  clear hq
  go_enter Tryz.func100, Tryz.ntmps100
  go_wp2_with fail
  obtain ⟨W, hW⟩ : ∃ W : World, W = (((w.alloc (.cells #[.bool (sn (a)), .slice A (ln (ab (a))) cA] 32)).alloc (.cells #[.bool (sn (b)), .slice B (ln (ab (b))) cB] 32)).alloc (.cells #[.bool false, .slice none 0 0, .bool false, .slice none 0 0, .slice none 0 0] 34)) := ⟨_, rfl⟩
  have s0_0 : W.cell? ⟨w.heap.size, 0, none⟩ = some (.bool (sn (a))) := by subst hW; go_simp
  have g0_0 : W.frozen? ⟨w.heap.size, 0, none⟩ = false := by subst hW; go_simp
  have s0_1 : W.cell? ⟨w.heap.size, 1, none⟩ = some (.slice A (ln (ab (a))) cA) := by subst hW; go_simp
  have g0_1 : W.frozen? ⟨w.heap.size, 1, none⟩ = false := by subst hW; go_simp
  have s1_0 : W.cell? ⟨w.heap.size + 1, 0, none⟩ = some (.bool (sn (b))) := by subst hW; go_simp
  have g1_0 : W.frozen? ⟨w.heap.size + 1, 0, none⟩ = false := by subst hW; go_simp
  have s1_1 : W.cell? ⟨w.heap.size + 1, 1, none⟩ = some (.slice B (ln (ab (b))) cB) := by subst hW; go_simp
  have g1_1 : W.frozen? ⟨w.heap.size + 1, 1, none⟩ = false := by subst hW; go_simp
  have r0 : W.cell? ⟨w.heap.size + 1 + 1, 0, none⟩ = some (.bool false) := by subst hW; go_simp
  have f0 : W.frozen? ⟨w.heap.size + 1 + 1, 0, none⟩ = false := by subst hW; go_simp
  have r1 : W.cell? ⟨w.heap.size + 1 + 1, 1, none⟩ = some (.slice none 0 0) := by subst hW; go_simp
  have f1 : W.frozen? ⟨w.heap.size + 1 + 1, 1, none⟩ = false := by subst hW; go_simp
  have r2 : W.cell? ⟨w.heap.size + 1 + 1, 2, none⟩ = some (.bool false) := by subst hW; go_simp
  have f2 : W.frozen? ⟨w.heap.size + 1 + 1, 2, none⟩ = false := by subst hW; go_simp
  have r3 : W.cell? ⟨w.heap.size + 1 + 1, 3, none⟩ = some (.slice none 0 0) := by subst hW; go_simp
  have f3 : W.frozen? ⟨w.heap.size + 1 + 1, 3, none⟩ = false := by subst hW; go_simp
  have r4 : W.cell? ⟨w.heap.size + 1 + 1, 4, none⟩ = some (.slice none 0 0) := by subst hW; go_simp
  have f4 : W.frozen? ⟨w.heap.size + 1 + 1, 4, none⟩ = false := by subst hW; go_simp
  have HW : Below w.heap.size w W := by subst hW; exact ((((Below.refl w.heap.size w).alloc (Nat.le_refl _) _).alloc (by simp) _).alloc (by simp; omega) _)
  have l0 : w.heap.size < W.heap.size := by subst hW; simp <;> omega
  have l1 : w.heap.size + 1 < W.heap.size := by subst hW; simp <;> omega
  have l2 : w.heap.size + 1 + 1 < W.heap.size := by subst hW; simp
  have n0 : w.heap.size ≠ w.heap.size + 1 + 1 := by omega
  have n1 : w.heap.size + 1 ≠ w.heap.size + 1 + 1 := by omega
  replace hx := hx.to HW
  replace hy := hy.to HW
  replace hd := hd.to HW
  rw [← hW]
  clear hW
  replace HW := Lib.hid HW
  refine (rgcd_any (ab a) (ab b) A B cA cB _ (by exact hx) (by exact hy) hbx hby).mono ?_
  rintro e w1 ⟨A1, c1, rfl, h1, hb1⟩
  replace s0_0 := keepc hb1 s0_0 l0
  replace g0_0 := keepf hb1 g0_0 l0
  replace s0_1 := keepc hb1 s0_1 l0
  replace g0_1 := keepf hb1 g0_1 l0
  replace s1_0 := keepc hb1 s1_0 l1
  replace g1_0 := keepf hb1 g1_0 l1
  replace s1_1 := keepc hb1 s1_1 l1
  replace g1_1 := keepf hb1 g1_1 l1
  replace r0 := keepc hb1 r0 l2
  replace f0 := keepf hb1 f0 l2
  replace r1 := keepc hb1 r1 l2
  replace f1 := keepf hb1 f1 l2
  replace r2 := keepc hb1 r2 l2
  replace f2 := keepf hb1 f2 l2
  replace r3 := keepc hb1 r3 l2
  replace f3 := keepf hb1 f3 l2
  replace r4 := keepc hb1 r4 l2
  replace f4 := keepf hb1 f4 l2
  replace l0 := Nat.lt_of_lt_of_le l0 hb1.size
  replace l1 := Nat.lt_of_lt_of_le l1 hb1.size
  replace l2 := Nat.lt_of_lt_of_le l2 hb1.size
  replace hx := hx.to hb1
  replace hy := hy.to hb1
  replace hd := hd.to hb1
  replace HW := Lib.hid (hstep HW hb1)
  clear hb1
  go_wp2_with fail
  have hl1 : ln (Nat.gcd (ab a) (ab b)) ≤ 1099511627776 := gcd_ln hbx hby
  refine (rgcd_any (Nat.gcd (ab a) (ab b)) d A1 D c1 cD _ (by exact h1) (by exact hd) hl1 hbd).mono ?_
  rintro e w2 ⟨A2, c2, rfl, h2, hb2⟩
  replace s0_0 := keepc hb2 s0_0 l0
  replace g0_0 := keepf hb2 g0_0 l0
  replace s0_1 := keepc hb2 s0_1 l0
  replace g0_1 := keepf hb2 g0_1 l0
  replace s1_0 := keepc hb2 s1_0 l1
  replace g1_0 := keepf hb2 g1_0 l1
  replace s1_1 := keepc hb2 s1_1 l1
  replace g1_1 := keepf hb2 g1_1 l1
  replace r0 := keepc hb2 r0 l2
  replace f0 := keepf hb2 f0 l2
  replace r1 := keepc hb2 r1 l2
  replace f1 := keepf hb2 f1 l2
  replace r2 := keepc hb2 r2 l2
  replace f2 := keepf hb2 f2 l2
  replace r3 := keepc hb2 r3 l2
  replace f3 := keepf hb2 f3 l2
  replace r4 := keepc hb2 r4 l2
  replace f4 := keepf hb2 f4 l2
  replace l0 := Nat.lt_of_lt_of_le l0 hb2.size
  replace l1 := Nat.lt_of_lt_of_le l1 hb2.size
  replace l2 := Nat.lt_of_lt_of_le l2 hb2.size
  replace hx := hx.to hb2
  replace hy := hy.to hb2
  replace hd := hd.to hb2
  replace h1 := h1.to hb2
  replace HW := Lib.hid (hstep HW hb2)
  clear hb2
  rw [show Nat.gcd (Nat.gcd (ab a) (ab b)) d = g from HG.out.symm] at h2 ⊢
  obtain ⟨bg, hA2, hbg, hcg⟩ := id h2 (by omega)
  subst hA2
  have hgc := hcg 0 lg0
  have t1 := T1.out
  have t2 := T2.out
  clear hcg hbg
  go_wp2_with fail
  clear t1 hgc t2
  refine (rdiv_any (ab a) g A (some ⟨bg, 0, none⟩) cA c2 _ (by exact hx) (by exact h2) hbx hgl (by omega)).mono ?_
  rintro e w3 ⟨A4, c4, R4, e4, rfl, h4, q4, hb3⟩
  replace s0_0 := keepc hb3 s0_0 l0
  replace g0_0 := keepf hb3 g0_0 l0
  replace s0_1 := keepc hb3 s0_1 l0
  replace g0_1 := keepf hb3 g0_1 l0
  replace s1_0 := keepc hb3 s1_0 l1
  replace g1_0 := keepf hb3 g1_0 l1
  replace s1_1 := keepc hb3 s1_1 l1
  replace g1_1 := keepf hb3 g1_1 l1
  replace r0 := keepc hb3 r0 l2
  replace f0 := keepf hb3 f0 l2
  replace r1 := keepc hb3 r1 l2
  replace f1 := keepf hb3 f1 l2
  replace r2 := keepc hb3 r2 l2
  replace f2 := keepf hb3 f2 l2
  replace r3 := keepc hb3 r3 l2
  replace f3 := keepf hb3 f3 l2
  replace r4 := keepc hb3 r4 l2
  replace f4 := keepf hb3 f4 l2
  replace l0 := Nat.lt_of_lt_of_le l0 hb3.size
  replace l1 := Nat.lt_of_lt_of_le l1 hb3.size
  replace l2 := Nat.lt_of_lt_of_le l2 hb3.size
  replace hx := hx.to hb3
  replace hy := hy.to hb3
  replace hd := hd.to hb3
  replace h1 := h1.to hb3
  replace h2 := h2.to hb3
  replace HW := Lib.hid (hstep HW hb3)
  clear hb3
  go_wp2_with fail
  refine (rdiv_any (ab b) g B (some ⟨bg, 0, none⟩) cB c2 _ (by exact hy) (by exact h2) hby hgl (by omega)).mono ?_
  rintro e w4 ⟨A5, c5, R5, e5, rfl, h5, q5, hb4⟩
  replace s0_0 := keepc hb4 s0_0 l0
  replace g0_0 := keepf hb4 g0_0 l0
  replace s0_1 := keepc hb4 s0_1 l0
  replace g0_1 := keepf hb4 g0_1 l0
  replace s1_0 := keepc hb4 s1_0 l1
  replace g1_0 := keepf hb4 g1_0 l1
  replace s1_1 := keepc hb4 s1_1 l1
  replace g1_1 := keepf hb4 g1_1 l1
  replace r0 := keepc hb4 r0 l2
  replace f0 := keepf hb4 f0 l2
  replace r1 := keepc hb4 r1 l2
  replace f1 := keepf hb4 f1 l2
  replace r2 := keepc hb4 r2 l2
  replace f2 := keepf hb4 f2 l2
  replace r3 := keepc hb4 r3 l2
  replace f3 := keepf hb4 f3 l2
  replace r4 := keepc hb4 r4 l2
  replace f4 := keepf hb4 f4 l2
  replace l0 := Nat.lt_of_lt_of_le l0 hb4.size
  replace l1 := Nat.lt_of_lt_of_le l1 hb4.size
  replace l2 := Nat.lt_of_lt_of_le l2 hb4.size
  replace hx := hx.to hb4
  replace hy := hy.to hb4
  replace hd := hd.to hb4
  replace h1 := h1.to hb4
  replace h2 := h2.to hb4
  replace h4 := h4.to hb4
  replace HW := Lib.hid (hstep HW hb4)
  clear hb4
  go_wp2_with fail
  refine (rdiv_any d g D (some ⟨bg, 0, none⟩) cD c2 _ (by exact hd) (by exact h2) hbd hgl (by omega)).mono ?_
  rintro e w5 ⟨A6, c6, R6, e6, rfl, h6, q6, hb5⟩
  replace s0_0 := keepc hb5 s0_0 l0
  replace g0_0 := keepf hb5 g0_0 l0
  replace s0_1 := keepc hb5 s0_1 l0
  replace g0_1 := keepf hb5 g0_1 l0
  replace s1_0 := keepc hb5 s1_0 l1
  replace g1_0 := keepf hb5 g1_0 l1
  replace s1_1 := keepc hb5 s1_1 l1
  replace g1_1 := keepf hb5 g1_1 l1
  replace r0 := keepc hb5 r0 l2
  replace f0 := keepf hb5 f0 l2
  replace r1 := keepc hb5 r1 l2
  replace f1 := keepf hb5 f1 l2
  replace r2 := keepc hb5 r2 l2
  replace f2 := keepf hb5 f2 l2
  replace r3 := keepc hb5 r3 l2
  replace f3 := keepf hb5 f3 l2
  replace r4 := keepc hb5 r4 l2
  replace f4 := keepf hb5 f4 l2
  replace l0 := Nat.lt_of_lt_of_le l0 hb5.size
  replace l1 := Nat.lt_of_lt_of_le l1 hb5.size
  replace l2 := Nat.lt_of_lt_of_le l2 hb5.size
  replace hx := hx.to hb5
  replace hy := hy.to hb5
  replace hd := hd.to hb5
  replace h1 := h1.to hb5
  replace h2 := h2.to hb5
  replace h4 := h4.to hb5
  replace h5 := h5.to hb5
  replace HW := Lib.hid (hstep HW hb5)
  clear hb5
  go_wp2_with fail
  go_region_held3 (fun w' => w'.cell? ⟨w.heap.size, 0, none⟩ = some (.bool (sn (a))) ∧ w'.cell? ⟨w.heap.size + 1, 0, none⟩ = some (.bool (sn (b)))) (first | with_reducible exact ⟨s0_0, s1_0⟩ | with_reducible exact ⟨(keeps (keeps (keeps (keeps (keeps s0_0 n0) n0) n0) n0) n0), (keeps (keeps (keeps (keeps (keeps s1_0 n1) n1) n1) n1) n1)⟩ | exact ⟨s0_0, s1_0⟩) (first
    | (go_at_call_of 117 (Value.slice A4 (ln (ab a / g)) c4); refine (rsigned_z HZ.out.1 A4 c4 _ (by exact h4)).mono ?_; rintro e w6 ⟨Z1, cZ1, rfl, z1, hb6⟩; have hb6 := undrew hb6; replace s0_0 := keepc hb6 s0_0 l0; replace g0_0 := keepf hb6 g0_0 l0; replace s0_1 := keepc hb6 s0_1 l0; replace g0_1 := keepf hb6 g0_1 l0; replace s1_0 := keepc hb6 s1_0 l1; replace g1_0 := keepf hb6 g1_0 l1; replace s1_1 := keepc hb6 s1_1 l1; replace g1_1 := keepf hb6 g1_1 l1; replace r0 := keepc hb6 r0 l2; replace f0 := keepf hb6 f0 l2; replace r1 := keepc hb6 r1 l2; replace f1 := keepf hb6 f1 l2; replace r2 := keepc hb6 r2 l2; replace f2 := keepf hb6 f2 l2; replace r3 := keepc hb6 r3 l2; replace f3 := keepf hb6 f3 l2; replace r4 := keepc hb6 r4 l2; replace f4 := keepf hb6 f4 l2; replace l0 := Nat.lt_of_lt_of_le l0 hb6.size; replace l1 := Nat.lt_of_lt_of_le l1 hb6.size; replace l2 := Nat.lt_of_lt_of_le l2 hb6.size; replace hx := hx.to hb6; replace hy := hy.to hb6; replace hd := hd.to hb6; replace h1 := h1.to hb6; replace h2 := h2.to hb6; replace h4 := h4.to hb6; replace h5 := h5.to hb6; replace h6 := h6.to hb6; replace HW := Lib.hid (hstep HW hb6); clear hb6)
    | (go_at_call_of 117 (Value.slice A5 (ln (ab b / g)) c5); refine (rsigned_z HZ.out.2.1 A5 c5 _ (by exact h5)).mono ?_; rintro e w7 ⟨Z2, cZ2, rfl, z2, hb7⟩; replace s0_0 := keepc hb7 s0_0 l0; replace g0_0 := keepf hb7 g0_0 l0; replace s0_1 := keepc hb7 s0_1 l0; replace g0_1 := keepf hb7 g0_1 l0; replace s1_0 := keepc hb7 s1_0 l1; replace g1_0 := keepf hb7 g1_0 l1; replace s1_1 := keepc hb7 s1_1 l1; replace g1_1 := keepf hb7 g1_1 l1; replace r0 := keepc hb7 r0 l2; replace f0 := keepf hb7 f0 l2; replace r1 := keepc hb7 r1 l2; replace f1 := keepf hb7 f1 l2; replace r2 := keepc hb7 r2 l2; replace f2 := keepf hb7 f2 l2; replace r3 := keepc hb7 r3 l2; replace f3 := keepf hb7 f3 l2; replace r4 := keepc hb7 r4 l2; replace f4 := keepf hb7 f4 l2; replace l0 := Nat.lt_of_lt_of_le l0 hb7.size; replace l1 := Nat.lt_of_lt_of_le l1 hb7.size; replace l2 := Nat.lt_of_lt_of_le l2 hb7.size; replace hx := hx.to hb7; replace hy := hy.to hb7; replace hd := hd.to hb7; replace h1 := h1.to hb7; replace h2 := h2.to hb7; replace h4 := h4.to hb7; replace h5 := h5.to hb7; replace h6 := h6.to hb7; replace z1 := z1.to hb7; replace HW := Lib.hid (hstep HW hb7); clear hb7))
  go_wp2_with fail
  have hz := HZ.out.2.2
  refine bodyPost_ret (v := .agg #[.bool (sn (na q)), .slice Z1 (ln (ab (na q))) cZ1, .bool (sn (nb q)), .slice Z2 (ln (ab (nb q))) cZ2, .slice A6 (ln (d / g)) c6]) (by simp [results, Tryz.results100, go_sem, r0, r1, r2, r3, r4, f0, f1, f2, f3, f4]) rfl ?_
  rw [hz]
  exact retNumC_fin (q := q) (A1 := Z1) (A2 := Z2) (A3 := A6) HW ⟨z1, z2, by rw [← hz]; exact h6⟩ (by omega) r0

set_option maxHeartbeats 4000000 in
theorem rmake_many (a b : Int) (d : Nat) (A B D : Option Addr) (cA cB cD : Nat) (w : World) (hx : Nat32 w A (ab a)) (hy : Nat32 w B (ab b)) (hd : Nat32 w D d) (hbx : ln (ab a) ≤ 1099511627776) (hby : ln (ab b) ≤ 1099511627776) (hbd : ln d ≤ 1099511627776) (hd0 : d ≠ 0) (g : Nat) (hg : g = gg a b d) (hg1 : g ≠ 1) (hl : ln g ≠ 1) :
    Calls Tryz.prog 100 #[.agg #[.bool (sn (a)), .slice A (ln (ab (a))) cA], .agg #[.bool (sn (b)), .slice B (ln (ab (b))) cB], .slice D (ln d) cD] w (RetNumC w (fr a b d)) := by
  have g0 : 0 < g := by rw [hg]; exact gg_pos a b (by omega)
  have HG := Lib.hid hg
  have hgl : ln g ≤ 1099511627776 := Nat.le_trans (ln_mono (Nat.le_of_dvd (by omega) (by rw [hg]; exact (gg_dvd a b d).2.2))) hbd
  have lg0 := ln_pos (show g ≠ 0 by omega)
  have T1 : Hid (((ln g : Int) == 1) = false) := Lib.hid (by rw [beq_eq_false_iff_ne]; omega)
  have HZ := Lib.hid (make_forms (a := a) (b := b) hd0)
  rw [← hg] at HZ
  clear hg hg1 hl
  obtain ⟨q, hq⟩ : ∃ q, q = fr a b d := ⟨_, rfl⟩
  rw [← hq] at HZ ⊢
  clear hq
  go_enter Tryz.func100, Tryz.ntmps100
  go_wp2_with fail
  obtain ⟨W, hW⟩ : ∃ W : World, W = (((w.alloc (.cells #[.bool (sn (a)), .slice A (ln (ab (a))) cA] 32)).alloc (.cells #[.bool (sn (b)), .slice B (ln (ab (b))) cB] 32)).alloc (.cells #[.bool false, .slice none 0 0, .bool false, .slice none 0 0, .slice none 0 0] 34)) := ⟨_, rfl⟩
  have s0_0 : W.cell? ⟨w.heap.size, 0, none⟩ = some (.bool (sn (a))) := by subst hW; go_simp
  have g0_0 : W.frozen? ⟨w.heap.size, 0, none⟩ = false := by subst hW; go_simp
  have s0_1 : W.cell? ⟨w.heap.size, 1, none⟩ = some (.slice A (ln (ab (a))) cA) := by subst hW; go_simp
  have g0_1 : W.frozen? ⟨w.heap.size, 1, none⟩ = false := by subst hW; go_simp
  have s1_0 : W.cell? ⟨w.heap.size + 1, 0, none⟩ = some (.bool (sn (b))) := by subst hW; go_simp
  have g1_0 : W.frozen? ⟨w.heap.size + 1, 0, none⟩ = false := by subst hW; go_simp
  have s1_1 : W.cell? ⟨w.heap.size + 1, 1, none⟩ = some (.slice B (ln (ab (b))) cB) := by subst hW; go_simp
  have g1_1 : W.frozen? ⟨w.heap.size + 1, 1, none⟩ = false := by subst hW; go_simp
  have r0 : W.cell? ⟨w.heap.size + 1 + 1, 0, none⟩ = some (.bool false) := by subst hW; go_simp
  have f0 : W.frozen? ⟨w.heap.size + 1 + 1, 0, none⟩ = false := by subst hW; go_simp
  have r1 : W.cell? ⟨w.heap.size + 1 + 1, 1, none⟩ = some (.slice none 0 0) := by subst hW; go_simp
  have f1 : W.frozen? ⟨w.heap.size + 1 + 1, 1, none⟩ = false := by subst hW; go_simp
  have r2 : W.cell? ⟨w.heap.size + 1 + 1, 2, none⟩ = some (.bool false) := by subst hW; go_simp
  have f2 : W.frozen? ⟨w.heap.size + 1 + 1, 2, none⟩ = false := by subst hW; go_simp
  have r3 : W.cell? ⟨w.heap.size + 1 + 1, 3, none⟩ = some (.slice none 0 0) := by subst hW; go_simp
  have f3 : W.frozen? ⟨w.heap.size + 1 + 1, 3, none⟩ = false := by subst hW; go_simp
  have r4 : W.cell? ⟨w.heap.size + 1 + 1, 4, none⟩ = some (.slice none 0 0) := by subst hW; go_simp
  have f4 : W.frozen? ⟨w.heap.size + 1 + 1, 4, none⟩ = false := by subst hW; go_simp
  have HW : Below w.heap.size w W := by subst hW; exact ((((Below.refl w.heap.size w).alloc (Nat.le_refl _) _).alloc (by simp) _).alloc (by simp; omega) _)
  have l0 : w.heap.size < W.heap.size := by subst hW; simp <;> omega
  have l1 : w.heap.size + 1 < W.heap.size := by subst hW; simp <;> omega
  have l2 : w.heap.size + 1 + 1 < W.heap.size := by subst hW; simp
  have n0 : w.heap.size ≠ w.heap.size + 1 + 1 := by omega
  have n1 : w.heap.size + 1 ≠ w.heap.size + 1 + 1 := by omega
  replace hx := hx.to HW
  replace hy := hy.to HW
  replace hd := hd.to HW
  rw [← hW]
  clear hW
  replace HW := Lib.hid HW
  refine (rgcd_any (ab a) (ab b) A B cA cB _ (by exact hx) (by exact hy) hbx hby).mono ?_
  rintro e w1 ⟨A1, c1, rfl, h1, hb1⟩
  replace s0_0 := keepc hb1 s0_0 l0
  replace g0_0 := keepf hb1 g0_0 l0
  replace s0_1 := keepc hb1 s0_1 l0
  replace g0_1 := keepf hb1 g0_1 l0
  replace s1_0 := keepc hb1 s1_0 l1
  replace g1_0 := keepf hb1 g1_0 l1
  replace s1_1 := keepc hb1 s1_1 l1
  replace g1_1 := keepf hb1 g1_1 l1
  replace r0 := keepc hb1 r0 l2
  replace f0 := keepf hb1 f0 l2
  replace r1 := keepc hb1 r1 l2
  replace f1 := keepf hb1 f1 l2
  replace r2 := keepc hb1 r2 l2
  replace f2 := keepf hb1 f2 l2
  replace r3 := keepc hb1 r3 l2
  replace f3 := keepf hb1 f3 l2
  replace r4 := keepc hb1 r4 l2
  replace f4 := keepf hb1 f4 l2
  replace l0 := Nat.lt_of_lt_of_le l0 hb1.size
  replace l1 := Nat.lt_of_lt_of_le l1 hb1.size
  replace l2 := Nat.lt_of_lt_of_le l2 hb1.size
  replace hx := hx.to hb1
  replace hy := hy.to hb1
  replace hd := hd.to hb1
  replace HW := Lib.hid (hstep HW hb1)
  clear hb1
  go_wp2_with fail
  have hl1 : ln (Nat.gcd (ab a) (ab b)) ≤ 1099511627776 := gcd_ln hbx hby
  refine (rgcd_any (Nat.gcd (ab a) (ab b)) d A1 D c1 cD _ (by exact h1) (by exact hd) hl1 hbd).mono ?_
  rintro e w2 ⟨A2, c2, rfl, h2, hb2⟩
  replace s0_0 := keepc hb2 s0_0 l0
  replace g0_0 := keepf hb2 g0_0 l0
  replace s0_1 := keepc hb2 s0_1 l0
  replace g0_1 := keepf hb2 g0_1 l0
  replace s1_0 := keepc hb2 s1_0 l1
  replace g1_0 := keepf hb2 g1_0 l1
  replace s1_1 := keepc hb2 s1_1 l1
  replace g1_1 := keepf hb2 g1_1 l1
  replace r0 := keepc hb2 r0 l2
  replace f0 := keepf hb2 f0 l2
  replace r1 := keepc hb2 r1 l2
  replace f1 := keepf hb2 f1 l2
  replace r2 := keepc hb2 r2 l2
  replace f2 := keepf hb2 f2 l2
  replace r3 := keepc hb2 r3 l2
  replace f3 := keepf hb2 f3 l2
  replace r4 := keepc hb2 r4 l2
  replace f4 := keepf hb2 f4 l2
  replace l0 := Nat.lt_of_lt_of_le l0 hb2.size
  replace l1 := Nat.lt_of_lt_of_le l1 hb2.size
  replace l2 := Nat.lt_of_lt_of_le l2 hb2.size
  replace hx := hx.to hb2
  replace hy := hy.to hb2
  replace hd := hd.to hb2
  replace h1 := h1.to hb2
  replace HW := Lib.hid (hstep HW hb2)
  clear hb2
  rw [show Nat.gcd (Nat.gcd (ab a) (ab b)) d = g from HG.out.symm] at h2 ⊢
  obtain ⟨bg, hA2, hbg, hcg⟩ := id h2 (by omega)
  subst hA2
  have hgc := hcg 0 lg0
  have t1 := T1.out
  clear hcg hbg
  go_wp2_with fail
  clear t1 hgc
  refine (rdiv_any (ab a) g A (some ⟨bg, 0, none⟩) cA c2 _ (by exact hx) (by exact h2) hbx hgl (by omega)).mono ?_
  rintro e w3 ⟨A4, c4, R4, e4, rfl, h4, q4, hb3⟩
  replace s0_0 := keepc hb3 s0_0 l0
  replace g0_0 := keepf hb3 g0_0 l0
  replace s0_1 := keepc hb3 s0_1 l0
  replace g0_1 := keepf hb3 g0_1 l0
  replace s1_0 := keepc hb3 s1_0 l1
  replace g1_0 := keepf hb3 g1_0 l1
  replace s1_1 := keepc hb3 s1_1 l1
  replace g1_1 := keepf hb3 g1_1 l1
  replace r0 := keepc hb3 r0 l2
  replace f0 := keepf hb3 f0 l2
  replace r1 := keepc hb3 r1 l2
  replace f1 := keepf hb3 f1 l2
  replace r2 := keepc hb3 r2 l2
  replace f2 := keepf hb3 f2 l2
  replace r3 := keepc hb3 r3 l2
  replace f3 := keepf hb3 f3 l2
  replace r4 := keepc hb3 r4 l2
  replace f4 := keepf hb3 f4 l2
  replace l0 := Nat.lt_of_lt_of_le l0 hb3.size
  replace l1 := Nat.lt_of_lt_of_le l1 hb3.size
  replace l2 := Nat.lt_of_lt_of_le l2 hb3.size
  replace hx := hx.to hb3
  replace hy := hy.to hb3
  replace hd := hd.to hb3
  replace h1 := h1.to hb3
  replace h2 := h2.to hb3
  replace HW := Lib.hid (hstep HW hb3)
  clear hb3
  go_wp2_with fail
  refine (rdiv_any (ab b) g B (some ⟨bg, 0, none⟩) cB c2 _ (by exact hy) (by exact h2) hby hgl (by omega)).mono ?_
  rintro e w4 ⟨A5, c5, R5, e5, rfl, h5, q5, hb4⟩
  replace s0_0 := keepc hb4 s0_0 l0
  replace g0_0 := keepf hb4 g0_0 l0
  replace s0_1 := keepc hb4 s0_1 l0
  replace g0_1 := keepf hb4 g0_1 l0
  replace s1_0 := keepc hb4 s1_0 l1
  replace g1_0 := keepf hb4 g1_0 l1
  replace s1_1 := keepc hb4 s1_1 l1
  replace g1_1 := keepf hb4 g1_1 l1
  replace r0 := keepc hb4 r0 l2
  replace f0 := keepf hb4 f0 l2
  replace r1 := keepc hb4 r1 l2
  replace f1 := keepf hb4 f1 l2
  replace r2 := keepc hb4 r2 l2
  replace f2 := keepf hb4 f2 l2
  replace r3 := keepc hb4 r3 l2
  replace f3 := keepf hb4 f3 l2
  replace r4 := keepc hb4 r4 l2
  replace f4 := keepf hb4 f4 l2
  replace l0 := Nat.lt_of_lt_of_le l0 hb4.size
  replace l1 := Nat.lt_of_lt_of_le l1 hb4.size
  replace l2 := Nat.lt_of_lt_of_le l2 hb4.size
  replace hx := hx.to hb4
  replace hy := hy.to hb4
  replace hd := hd.to hb4
  replace h1 := h1.to hb4
  replace h2 := h2.to hb4
  replace h4 := h4.to hb4
  replace HW := Lib.hid (hstep HW hb4)
  clear hb4
  go_wp2_with fail
  refine (rdiv_any d g D (some ⟨bg, 0, none⟩) cD c2 _ (by exact hd) (by exact h2) hbd hgl (by omega)).mono ?_
  rintro e w5 ⟨A6, c6, R6, e6, rfl, h6, q6, hb5⟩
  replace s0_0 := keepc hb5 s0_0 l0
  replace g0_0 := keepf hb5 g0_0 l0
  replace s0_1 := keepc hb5 s0_1 l0
  replace g0_1 := keepf hb5 g0_1 l0
  replace s1_0 := keepc hb5 s1_0 l1
  replace g1_0 := keepf hb5 g1_0 l1
  replace s1_1 := keepc hb5 s1_1 l1
  replace g1_1 := keepf hb5 g1_1 l1
  replace r0 := keepc hb5 r0 l2
  replace f0 := keepf hb5 f0 l2
  replace r1 := keepc hb5 r1 l2
  replace f1 := keepf hb5 f1 l2
  replace r2 := keepc hb5 r2 l2
  replace f2 := keepf hb5 f2 l2
  replace r3 := keepc hb5 r3 l2
  replace f3 := keepf hb5 f3 l2
  replace r4 := keepc hb5 r4 l2
  replace f4 := keepf hb5 f4 l2
  replace l0 := Nat.lt_of_lt_of_le l0 hb5.size
  replace l1 := Nat.lt_of_lt_of_le l1 hb5.size
  replace l2 := Nat.lt_of_lt_of_le l2 hb5.size
  replace hx := hx.to hb5
  replace hy := hy.to hb5
  replace hd := hd.to hb5
  replace h1 := h1.to hb5
  replace h2 := h2.to hb5
  replace h4 := h4.to hb5
  replace h5 := h5.to hb5
  replace HW := Lib.hid (hstep HW hb5)
  clear hb5
  go_wp2_with fail
  go_region_held3 (fun w' => w'.cell? ⟨w.heap.size, 0, none⟩ = some (.bool (sn (a))) ∧ w'.cell? ⟨w.heap.size + 1, 0, none⟩ = some (.bool (sn (b)))) (first | with_reducible exact ⟨s0_0, s1_0⟩ | with_reducible exact ⟨(keeps (keeps (keeps (keeps (keeps s0_0 n0) n0) n0) n0) n0), (keeps (keeps (keeps (keeps (keeps s1_0 n1) n1) n1) n1) n1)⟩ | exact ⟨s0_0, s1_0⟩) (first
    | (go_at_call_of 117 (Value.slice A4 (ln (ab a / g)) c4); refine (rsigned_z HZ.out.1 A4 c4 _ (by exact h4)).mono ?_; rintro e w6 ⟨Z1, cZ1, rfl, z1, hb6⟩; have hb6 := undrew hb6; replace s0_0 := keepc hb6 s0_0 l0; replace g0_0 := keepf hb6 g0_0 l0; replace s0_1 := keepc hb6 s0_1 l0; replace g0_1 := keepf hb6 g0_1 l0; replace s1_0 := keepc hb6 s1_0 l1; replace g1_0 := keepf hb6 g1_0 l1; replace s1_1 := keepc hb6 s1_1 l1; replace g1_1 := keepf hb6 g1_1 l1; replace r0 := keepc hb6 r0 l2; replace f0 := keepf hb6 f0 l2; replace r1 := keepc hb6 r1 l2; replace f1 := keepf hb6 f1 l2; replace r2 := keepc hb6 r2 l2; replace f2 := keepf hb6 f2 l2; replace r3 := keepc hb6 r3 l2; replace f3 := keepf hb6 f3 l2; replace r4 := keepc hb6 r4 l2; replace f4 := keepf hb6 f4 l2; replace l0 := Nat.lt_of_lt_of_le l0 hb6.size; replace l1 := Nat.lt_of_lt_of_le l1 hb6.size; replace l2 := Nat.lt_of_lt_of_le l2 hb6.size; replace hx := hx.to hb6; replace hy := hy.to hb6; replace hd := hd.to hb6; replace h1 := h1.to hb6; replace h2 := h2.to hb6; replace h4 := h4.to hb6; replace h5 := h5.to hb6; replace h6 := h6.to hb6; replace HW := Lib.hid (hstep HW hb6); clear hb6)
    | (go_at_call_of 117 (Value.slice A5 (ln (ab b / g)) c5); refine (rsigned_z HZ.out.2.1 A5 c5 _ (by exact h5)).mono ?_; rintro e w7 ⟨Z2, cZ2, rfl, z2, hb7⟩; replace s0_0 := keepc hb7 s0_0 l0; replace g0_0 := keepf hb7 g0_0 l0; replace s0_1 := keepc hb7 s0_1 l0; replace g0_1 := keepf hb7 g0_1 l0; replace s1_0 := keepc hb7 s1_0 l1; replace g1_0 := keepf hb7 g1_0 l1; replace s1_1 := keepc hb7 s1_1 l1; replace g1_1 := keepf hb7 g1_1 l1; replace r0 := keepc hb7 r0 l2; replace f0 := keepf hb7 f0 l2; replace r1 := keepc hb7 r1 l2; replace f1 := keepf hb7 f1 l2; replace r2 := keepc hb7 r2 l2; replace f2 := keepf hb7 f2 l2; replace r3 := keepc hb7 r3 l2; replace f3 := keepf hb7 f3 l2; replace r4 := keepc hb7 r4 l2; replace f4 := keepf hb7 f4 l2; replace l0 := Nat.lt_of_lt_of_le l0 hb7.size; replace l1 := Nat.lt_of_lt_of_le l1 hb7.size; replace l2 := Nat.lt_of_lt_of_le l2 hb7.size; replace hx := hx.to hb7; replace hy := hy.to hb7; replace hd := hd.to hb7; replace h1 := h1.to hb7; replace h2 := h2.to hb7; replace h4 := h4.to hb7; replace h5 := h5.to hb7; replace h6 := h6.to hb7; replace z1 := z1.to hb7; replace HW := Lib.hid (hstep HW hb7); clear hb7))
  go_wp2_with fail
  have hz := HZ.out.2.2
  refine bodyPost_ret (v := .agg #[.bool (sn (na q)), .slice Z1 (ln (ab (na q))) cZ1, .bool (sn (nb q)), .slice Z2 (ln (ab (nb q))) cZ2, .slice A6 (ln (d / g)) c6]) (by simp [results, Tryz.results100, go_sem, r0, r1, r2, r3, r4, f0, f1, f2, f3, f4]) rfl ?_
  rw [hz]
  exact retNumC_fin (q := q) (A1 := Z1) (A2 := Z2) (A3 := A6) HW ⟨z1, z2, by rw [← hz]; exact h6⟩ (by omega) r0

/-- 'Make(a, b, d)', d not 0. -/
theorem rmake_any (a b : Int) (d : Nat) (A B D : Option Addr) (cA cB cD : Nat) (w : World) (hx : Nat32 w A (ab a)) (hy : Nat32 w B (ab b)) (hd : Nat32 w D d) (hbx : ln (ab a) ≤ 1099511627776) (hby : ln (ab b) ≤ 1099511627776) (hbd : ln d ≤ 1099511627776) (hd0 : d ≠ 0) :
    Calls Tryz.prog 100 #[.agg #[.bool (sn (a)), .slice A (ln (ab (a))) cA], .agg #[.bool (sn (b)), .slice B (ln (ab (b))) cB], .slice D (ln d) cD] w (RetNumC w (fr a b d)) := by
  by_cases hg1 : gg a b d = 1
  · exact rmake_one a b d A B D cA cB cD w hx hy hd hbx hby hbd hd0 _ rfl hg1
  · by_cases hl : ln (gg a b d) = 1
    · exact rmake_few a b d A B D cA cB cD w hx hy hd hbx hby hbd hd0 _ rfl hg1 hl
    · exact rmake_many a b d A B D cA cB cD w hx hy hd hbx hby hbd hd0 _ rfl hg1 hl

end Go.Proofs.YtgpmlhpgdalheaaGreat
