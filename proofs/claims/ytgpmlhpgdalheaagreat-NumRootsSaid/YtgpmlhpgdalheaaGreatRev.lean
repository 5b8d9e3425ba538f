/- 'slices.Reverse' of bytes. -/
import Derived.Test.YtgpmlhpgdalheaaGreatWhole
namespace Go.Proofs.YtgpmlhpgdalheaaGreat
open Go.RowKit Pl
set_option linter.unusedVariables false
set_option linter.unusedSimpArgs false

/-- The first k and the last k of m cells are exchanged. -/
def revF (f : Nat → Value) (m k t : Nat) : Value := if t < k ∨ (m - k ≤ t ∧ t < m) then f (m - 1 - t) else f t

set_option maxHeartbeats 4000000 in
theorem rev_any (w : World) (g m cap : Nat) (f : Nat → Value) (h : w.rowIs g 5 cap f) (bv : Nat → Int) (hv : ∀ t, t < m → f t = .int .u8 (bv t)) (hm : 0 < m) (hmc : m ≤ cap) (hm2 : m ≤ 140737488355328) :
    Calls Tryz.prog 201 #[.slice (some ⟨g, 0, none⟩) m cap] w fun e w' => e = .returned (.tuple #[]) ∧ w'.rowIs g 5 cap (fun t => if t < m then f (m - 1 - t) else f t) ∧ Below g w w' ∧ w'.heap.size = w.heap.size := by
  obtain ⟨p, hp⟩ : ∃ p, m = p + 1 := ⟨m - 1, by omega⟩
  subst hp
  have HV := Lib.hid hv
  have HM := Lib.hid hm2
  have HC := Lib.hid hmc
  have hp2 : p ≤ 140737488355327 := by omega
  clear hm hm2 hmc hv
  go_enter Tryz.func201, Tryz.ntmps201
  go_wp2_with fail
  go_loopw [2, 3] (fun i j wr => ∃ k l : Nat, i = .int .i64 (k : Int) ∧ j = .int .i64 (l : Int) ∧ Hid (k + l = p) ∧ Hid (k ≤ l + 1) ∧ wr.rowIs g 5 cap (revF f (p + 1) k) ∧ Below g w wr ∧ Hid (wr.heap.size = w.heap.size)) (fun i j _ => (intOf j).toNat + 1 - (intOf i).toNat)
  case atStart => exact ⟨0, p, rfl, by first | (simp [wrap64]; done) | (simp [wrap64]; omega), Lib.hid (by omega), Lib.hid (by omega), h.congr (fun t ht => by unfold revF; rw [if_neg (by omega)]), Below.refl _ _, Lib.hid rfl⟩
  case round =>
    obtain ⟨k, l, rfl, rfl, hkl, hk1, hrow, hb, hsz⟩ := hrel
    clear h
    have HB := Lib.hid hb
    have HR : Hid (wr.rowIs g 5 cap (revF f (p + 1) k)) := Lib.hid hrow
    clear hb
    by_cases hlt : k < l
    · have t1 : decide ((k : Int) < (l : Int)) = true := by rw [decide_eq_true_eq]; omega
      have ck : wr.cell? ⟨g, k, none⟩ = some (.int .u8 (bv k)) := by
        rw [hrow.cell (i := k) (by have := HC.out; have := hkl.out; omega)]
        unfold revF; rw [if_neg (by have := hkl.out; omega), HV.out k (by have := hkl.out; omega)]
      have cl : wr.cell? ⟨g, l, none⟩ = some (.int .u8 (bv l)) := by
        rw [hrow.cell (i := l) (by have := HC.out; have := hkl.out; omega)]
        unfold revF; rw [if_neg (by have := hkl.out; omega), HV.out l (by have := hkl.out; omega)]
      have fk := hrow.frozen k
      have fl := hrow.frozen l
      have b1 : (k : Int) < (p : Int) + 1 := by have := hkl.out; omega
      have b2 : (l : Int) < (p : Int) + 1 := by have := hkl.out; omega
      have b3 : (0 : Int) ≤ (k : Int) := by omega
      have b4 : (0 : Int) ≤ (l : Int) := by omega
      have HT := Lib.hid hlt
      clear hrow hlt
      go_wp2_with fail
      go_region
      obtain ⟨l', hl'⟩ : ∃ l', l = l' + 1 := ⟨l - 1, by have := HT.out; omega⟩
      subst hl'
      have HF : Hid ((((wr.setCell ⟨g, k, none⟩ (.int .u8 (bv (l' + 1)))).setCell ⟨g, l' + 1, none⟩ (.int .u8 (bv k))).drew).rowIs g 5 cap (revF f (p + 1) (k + 1))) := Lib.hid (((HR.out.set k _).set (l' + 1) _).drew.congr (fun t ht => by
        have e1 := hkl.out
        have e2 := HT.out
        unfold revF
        by_cases c1 : t = l' + 1
        · rw [if_pos c1, if_pos (by omega), c1, show p + 1 - 1 - (l' + 1) = k by omega, HV.out k (by omega)]
        · rw [if_neg c1]
          by_cases c2 : t = k
          · rw [if_pos c2, if_pos (by omega), c2, show p + 1 - 1 - k = l' + 1 by omega, HV.out (l' + 1) (by omega)]
          · rw [if_neg c2]
            by_cases c3 : t < k ∨ (p + 1 - k ≤ t ∧ t < p + 1)
            · rw [if_pos c3, if_pos (by omega)]
            · rw [if_neg c3, if_neg (by omega)]))
      have HB2 : Hid (Below g w (((wr.setCell ⟨g, k, none⟩ (.int .u8 (bv (l' + 1)))).setCell ⟨g, l' + 1, none⟩ (.int .u8 (bv k))).drew)) := Lib.hid (by
        have h1 := (HB.out.setCell (p := ⟨g, k, none⟩) (Nat.le_refl g) (.int .u8 (bv (l' + 1)))).setCell (p := ⟨g, l' + 1, none⟩) (Nat.le_refl g) (.int .u8 (bv k))
        exact ⟨h1.os, h1.tape, h1.output, h1.size, h1.block⟩)
      have HS2 : Hid ((((wr.setCell ⟨g, k, none⟩ (.int .u8 (bv (l' + 1)))).setCell ⟨g, l' + 1, none⟩ (.int .u8 (bv k))).drew).heap.size = w.heap.size) := Lib.hid (by have := hsz.out; simpa [World.setCell, World.drew] using this)
      generalize (((wr.setCell ⟨g, k, none⟩ (.int .u8 (bv (l' + 1)))).setCell ⟨g, l' + 1, none⟩ (.int .u8 (bv k))).drew) = X at *
      clear ck cl fk fl b1 b2 b3 b4
      have b5 : k ≤ p := by have := hkl.out; omega
      have b6 : l' ≤ p := by have := hkl.out; omega
      go_wp2_with fail
      go_roundw
      case rel => exact ⟨k + 1, l', by simp, by simp, Lib.hid (by have := hkl.out; omega), Lib.hid (by have := HT.out; omega), HF.out, HB2.out, HS2⟩
      case measure => have := HT.out; simp [intOf]; omega
    · have t1 : decide ((k : Int) < (l : Int)) = false := by rw [decide_eq_false_iff_not]; omega
      have HT := Lib.hid hlt
      clear hrow hlt
      go_wp2_with fail
      go_end0
      refine ⟨rfl, HR.out.congr (fun t ht => ?_), HB.out, hsz.out⟩
      have e1 := hkl.out
      have e2 := HT.out
      have e3 := hk1.out
      unfold revF
      by_cases c : t < p + 1
      · rw [if_pos c]
        by_cases c3 : t < k ∨ (p + 1 - k ≤ t ∧ t < p + 1)
        · rw [if_pos c3]
        · rw [if_neg c3, show p + 1 - 1 - t = t by omega]
      · rw [if_neg c, if_neg (by omega)]
end Go.Proofs.YtgpmlhpgdalheaaGreat
