/- The reference: 'trim', 'NatOf', 'NatCmp'. The reference: 'natDigit'. The reference: 'NatText'. The reference: 'NatShl', 'NatShr', 'NatBits'. Conditions: at most 2^45 words, exponents at most 2^40. -/
import Derived.Test.YtgpmlhpgdalheaaGreatCmp
import Derived.Test.YtgpmlhpgdalheaaGreatSmall
import Derived.Test.YtgpmlhpgdalheaaGreatShort
import Derived.Test.YtgpmlhpgdalheaaGreatDig
import Derived.Test.YtgpmlhpgdalheaaGreatShl
import Derived.Test.YtgpmlhpgdalheaaGreatShr
import Derived.Test.YtgpmlhpgdalheaaGreatDivA
namespace Go.Proofs.YtgpmlhpgdalheaaGreat
open Go.RowKit Pl
set_option linter.unusedVariables false
set_option linter.unusedSimpArgs false

/-- A call of the reference hands back a number in words, in a slice of any capacity. -/
def RetNatC (w : World) (n : Nat) (e : Ending) (w' : World) : Prop := ∃ A c, e = .returned (.slice A (ln n) c) ∧ Nat32 w' A n ∧ Below w.heap.size w w'

set_option maxHeartbeats 400000 in
theorem rtrim_any (w : World) (g m c N : Nat) (hm : m ≤ 70368744177664) (hmc : m ≤ c) (hN : N < 4294967296 ^ m) (hc : ∀ j, j < m → w.cell? ⟨g, j, none⟩ = some (.int .u32 (wd N j : Nat))) :
    Calls Tryz.prog 166 #[.slice (some ⟨g, 0, none⟩) m c] w fun e w' => e = .returned (.slice (some ⟨g, 0, none⟩) (ln N) c) ∧ w = w' := by
  go_enter Tryz.func166, Tryz.ntmps166
  go_wp2
  go_loop [3] (fun i => ∃ k : Nat, k ≤ m ∧ N < 4294967296 ^ k ∧ i = .int .i64 k) (fun i => (intOf i).toNat)
  case atStart => exact ⟨m, Nat.le_refl _, hN, rfl⟩
  case round =>
    obtain ⟨k, hk, hNk, rfl⟩ := hrel
    have hcell : 0 < k → w.cell? ⟨g, k - 1, none⟩ = some (.int .u32 (wd N (k - 1) : Nat)) := fun _ => hc _ (by omega)
    have hkc : k ≤ c := by omega
    go_wp2
    · have h0 : ((wd N (k - 1) : Int) == 0) = true := by assumption
      have hk0 : 0 < k := by assumption
      go_round
      case rel => exact ⟨k - 1, by omega, lt_of_top hk0 hNk (by simpa using h0), by go_num⟩
      case measure => simp [intOf]; omega
    · have h0 : ((wd N (k - 1) : Int) == 0) = false := by assumption
      have hk0 : 0 < k := by assumption
      have e := ln_of_lt hNk (.inr (by simpa using h0))
      go_ret
      exact ⟨by rw [e]; rfl, rfl⟩
    · have hk0 : k = 0 := by omega
      have e := ln_of_lt hNk (.inl hk0)
      go_ret
      exact ⟨by rw [e]; rfl, rfl⟩

set_option maxHeartbeats 400000 in
theorem rnatOf_any (N : Nat) (hN : N < 18446744073709551616) (w : World) :
    Calls Tryz.prog 169 #[.int .u64 N] w (RetNatC w N) := by
  go_enter Tryz.func169, Tryz.ntmps169
  go_wp2_with fail
  refine (rtrim_any _ w.heap.size 2 2 N (by omega) (by omega) hN ?_).mono ?_
  · intro j hj
    rw [World.cell?_alloc_new]
    exact natOf_words N j hN hj
  rintro e w' ⟨rfl, rfl⟩
  go_wp2
  go_ret
  exact ⟨_, _, rfl, fun _ => ⟨w.heap.size, rfl, by simp, fun j hj => by
    rw [World.cell?_alloc_new]
    exact natOf_words N j hN (by have := ln_le (n := N) (k := 2) hN; omega)⟩, (Below.refl _ _).alloc (Nat.le_refl _) _⟩

set_option maxHeartbeats 400000 in
theorem rcmp_eq (x y : Nat) (A B : Option Addr) (c d : Nat) (w : World) (hx : Nat32 w A x) (hy : Nat32 w B y) (hbx : ln x ≤ 35184372088832) (hl : ln y = ln x) :
    Calls Tryz.prog 111 #[.slice A (ln x) c, .slice B (ln x) d] w (RetInt w (cmpN x y)) := by
  have HL := Lib.hid hl
  clear hl
  go_enter Tryz.func111, Tryz.ntmps111
  go_wp2_with fail
  go_loopw [5] (fun i wr => ∃ k : Nat, k ≤ ln x ∧ i = .int .i64 ((k : Int) - 1) ∧ x / 4294967296 ^ k = y / 4294967296 ^ k ∧ Below w.heap.size w wr) (fun i _ => (intOf i + 1).toNat)
  case atStart => exact ⟨ln x, Nat.le_refl _, by go_num, by rw [Nat.div_eq_of_lt (lt_ln x), ← HL.out, Nat.div_eq_of_lt (lt_ln y)], Below.refl _ _⟩
  case round =>
    obtain ⟨k, hk, rfl, hdiv, hbelk⟩ := hrel
    have HD := Lib.hid hdiv
    clear hdiv
    by_cases hk0 : 0 < k
    · have hx0 : x ≠ 0 := fun e => by rw [e, ln_zero] at hk; omega
      have hy0 : y ≠ 0 := fun e => by have := HL.out; rw [e, ln_zero] at this; omega
      obtain ⟨b, rfl, hb, hcx⟩ := hx hx0
      obtain ⟨b', rfl, hb', hcy⟩ := hy hy0
      have hxk := (hbelk.cell (p := ⟨b, k - 1, none⟩) hb).trans (hcx (k - 1) (by omega))
      have hyk := (hbelk.cell (p := ⟨b', k - 1, none⟩) hb').trans (hcy (k - 1) (by have := HL.out; omega))
      clear hcx hcy
      rcases Nat.lt_trichotomy (wd x (k - 1)) (wd y (k - 1)) with h | h | h
      · have hn : ((wd x (k - 1) : Int) != (wd y (k - 1) : Int)) = true := by rw [bne_iff_ne]; omega
        go_wp2
        go_quiet (fail)
        go_wp2
        go_quiet (fail)
        go_wp2
        go_ret
        exact ⟨ret_int (cmpN_lt ((hi_step hk0 HD.out).1 h)).symm, below_drewN (below_drewN hbelk _) _⟩
      · have h1 : ¬ wd x (k - 1) < wd y (k - 1) := by omega
        have h2 : ¬ wd y (k - 1) < wd x (k - 1) := by omega
        have hn : ((wd x (k - 1) : Int) != (wd y (k - 1) : Int)) = false := by rw [h]; simp
        have HE := Lib.hid h
        clear h
        go_wp2
        go_quiet (fail)
        go_wp2
        go_roundw
        case rel => exact ⟨k - 1, by omega, by go_num, (hi_step hk0 HD.out).2 HE.out, below_drewN hbelk _⟩
        case measure => simp [intOf]; omega
      · have h1 : ¬ wd x (k - 1) < wd y (k - 1) := by omega
        have hn : ((wd x (k - 1) : Int) != (wd y (k - 1) : Int)) = true := by rw [bne_iff_ne]; omega
        go_wp2
        go_quiet (fail)
        go_wp2
        go_quiet (fail)
        go_wp2
        go_ret
        exact ⟨ret_int (cmpN_gt ((hi_step hk0 HD.out.symm).1 h)).symm, below_drewN (below_drewN hbelk _) _⟩
    · obtain rfl : k = 0 := by omega
      go_wp2
      go_ret
      exact ⟨ret_int (cmpN_eq (by have := HD.out; simpa using this)).symm, hbelk⟩

set_option maxHeartbeats 400000 in
/-- 'NatCmp'. -/
theorem rcmp_any (x y : Nat) (A B : Option Addr) (c d : Nat) (w : World) (hx : Nat32 w A x) (hy : Nat32 w B y) (hbx : ln x ≤ 35184372088832) :
    Calls Tryz.prog 111 #[.slice A (ln x) c, .slice B (ln y) d] w (RetInt w (cmpN x y)) := by
  rcases Nat.lt_trichotomy (ln x) (ln y) with h | h | h
  · have hc := cmpN_lt (lt_of_ln_lt h)
    have hne : ((ln x : Int) != (ln y : Int)) = true := by rw [bne_iff_ne]; omega
    rw [hc]
    clear hc
    go_enter Tryz.func111, Tryz.ntmps111
    go_wp2
    go_ret
    exact ⟨rfl, Below.refl _ _⟩
  · rw [← h]
    exact rcmp_eq x y A B c d w hx hy hbx h.symm
  · have hc := cmpN_gt (lt_of_ln_lt h)
    have hne : ((ln x : Int) != (ln y : Int)) = true := by rw [bne_iff_ne]; omega
    rw [hc]
    clear hc
    go_enter Tryz.func111, Tryz.ntmps111
    go_wp2
    go_ret
    exact ⟨rfl, Below.refl _ _⟩

end Go.Proofs.YtgpmlhpgdalheaaGreat

namespace Go.Proofs.YtgpmlhpgdalheaaGreat
open Go.RowKit Pl
set_option linter.unusedVariables false
set_option linter.unusedSimpArgs false

theorem dig_facts {h l y : Nat} (hy0 : 0 < y) (hy : y < 4294967296) (hh : h < y) (hl' : l < 4294967296) :
    ((hl h l : Int).tdiv (y : Int)) = (dq h l y : Nat) ∧ ((hl h l : Int).tmod (y : Int)) = (dr h l y : Nat) ∧ dq h l y < 4294967296 ∧ dr h l y < 4294967296 := by
  have b2 : hl h l / y < 4294967296 := (Nat.div_lt_iff_lt_mul (by omega)).2 (by
    have : (h + 1) * 4294967296 ≤ y * 4294967296 := Nat.mul_le_mul_right _ hh
    unfold hl; rw [Nat.mul_comm 4294967296]; omega)
  have b3 : hl h l % y < y := Nat.mod_lt _ (by omega)
  have e1 : (hl h l : Int) / (y : Int) = ((hl h l / y : Nat) : Int) := (Int.natCast_ediv _ _).symm
  have e2 : (hl h l : Int) % (y : Int) = ((hl h l % y : Nat) : Int) := (Int.natCast_emod _ _).symm
  refine ⟨?_, ?_, ?_, ?_⟩
  · rw [Int.tdiv_eq_ediv_of_nonneg (by omega), e1]; unfold dq; rfl
  · rw [Int.tmod_eq_emod_of_nonneg (by omega), e2]; unfold dr; rfl
  · unfold dq; exact b2
  · unfold dr; exact Nat.lt_trans b3 hy

def RetShortC (w : World) (q r : Nat) (e : Ending) (w' : World) : Prop := ∃ A c, e = .returned (.tuple #[.slice A (ln q) c, .int .u32 (r : Nat)]) ∧ Nat32 w' A q ∧ Below w.heap.size w w'

set_option maxHeartbeats 1000000 in
/-- 'natDigit'. -/
theorem rdigit_any (x y c : Nat) (A : Option Addr) (w : World) (hx : Nat32 w A x) (hbx : ln x ≤ 35184372088832) (hy0 : 0 < y) (hy : y < 4294967296) :
    Calls Tryz.prog 194 #[.slice A (ln x) c, .int .u32 (y : Nat)] w (RetShortC w (x / y) (x % y)) := by
  have hmk := mk_words (ln x) (by omega)
  have hN : x / y < 4294967296 ^ ln x := lt_of_ln (ln_mono (Nat.div_le_self _ _))
  have hy1 : ((y : Int) == 0) = false := by rw [beq_eq_false_iff_ne]; omega
  go_enter Tryz.func194, Tryz.ntmps194
  go_wp2_with fail
  have hrow := (World.rowIs_made w (.int .u32 0) (ln x) 45).congr (g := above (x / y) (ln x)) fun j hj => (above_all _ hj).symm
  have hbel := (Below.refl w.heap.size w).alloc (Nat.le_refl _) (.cells (madeCells #[.int .u32 0] (ln x)) 45)
  clear hmk
  go_loopw [7, 8] (fun r i wr => ∃ k : Nat, k ≤ ln x ∧ i = .int .i64 ((k : Int) - 1) ∧ r = .int .u64 (rs x y k : Nat) ∧ wr.rowIs w.heap.size 45 (ln x) (above (x / y) k) ∧ Below w.heap.size w wr) (fun _ i _ => (intOf i + 1).toNat)
  case atStart => exact ⟨ln x, Nat.le_refl _, by go_num, by rw [rs_top]; rfl, hrow, hbel⟩
  case round =>
    obtain ⟨k, hk, rfl, rfl, hrowk, hbelk⟩ := hrel
    clear hrow hbel
    by_cases hk0 : 0 < k
    · have hx0 : x ≠ 0 := fun e => by rw [e, ln_zero] at hk; omega
      obtain ⟨b, rfl, hb, hcx⟩ := hx hx0
      have hxk := (hbelk.cell (p := ⟨b, k - 1, none⟩) hb).trans (hcx (k - 1) (by omega))
      have hst := hrowk.cell (i := k - 1) (by omega)
      have hfr := hrowk.frozen (k - 1)
      have hrl := rs_lt x k hy0
      have hwl := wd_lt x (k - 1)
      obtain ⟨d1, d2, d3, d4⟩ := dig_facts hy0 hy hrl hwl
      have hor := hl_or (h := rs x y k) (l := wd x (k - 1)) (by omega) hwl
      rw [show ((rs x y k * 4294967296 + wd x (k - 1) : Nat) : Int) = (hl (rs x y k) (wd x (k - 1)) : Nat) from rfl] at hor
      have HW := Lib.hid (rs_word (x := x) hy0 hk0)
      have HR := Lib.hid (rs_rest (x := x) (y := y) hk0)
      have hb0 : rs x y k < 4294967296 := by omega
      have hh : hl (rs x y k) (wd x (k - 1)) < 18446744073709551616 := by unfold hl; omega
      clear hcx hrl
      go_wp2_with fail
      go_roundw
      case rel => exact ⟨k - 1, by omega, by go_num, int_val (by rw [HR.out]), (hrowk.set _ _).congr fun j _ => above_step hk0 (int_val (by rw [HW.out])), hbelk.setCell (by simp) _⟩
      case measure => simp [intOf]; omega
    · obtain rfl : k = 0 := by omega
      have hR := rs_zero x y
      go_wp2_with fail
      refine (rtrim_any _ w.heap.size (ln x) (ln x) (x / y) (by omega) (by omega) hN fun j hj => by rw [hrowk.cell hj, above_zero]).mono ?_
      rintro e w' ⟨rfl, rfl⟩
      have hb9 : x % y < 4294967296 := Nat.lt_trans (Nat.mod_lt _ hy0) hy
      go_wp2
      refine bodyPost_ret (v := .tuple #[.slice (some ⟨w.heap.size, 0, none⟩) (ln (x / y)) (ln x), .int .u32 ((x % y : Nat) : Int)]) (by simp [results, Tryz.results194, go_sem]) rfl ?_
      exact ⟨_, _, rfl, Nat32.ofRow hrowk (ln_le hN) fun j hj => above_zero _ _, hbelk⟩
end Go.Proofs.YtgpmlhpgdalheaaGreat

namespace Go.Proofs.YtgpmlhpgdalheaaGreat
open Go.RowKit Pl
set_option linter.unusedVariables false
set_option linter.unusedSimpArgs false

set_option maxRecDepth 100000 in
set_option maxHeartbeats 4000000 in
theorem rtext_more (n c : Nat) (A : Option Addr) (w : World) (hx : Nat32 w A n) (hbx : ln n ≤ 1099511627776) (h0 : n ≠ 0) :
    Calls Tryz.prog 167 #[.slice A (ln n) c] w (RetStr w (dec n)) := by
  obtain ⟨i0, hi, hz0, hz1, hz2⟩ := info_parts Tryz.info_u8
  have HN : Hid ((rd n).length ≤ 10 * ln n) := Lib.hid (rd_ln n)
  have HS : Hid (ln n ≤ 1099511627776) := Lib.hid hbx
  have t0 : decide (ln n = 0) = false := by have := ln_pos h0; rw [decide_eq_false_iff_not]; omega
  have t0' : ((ln n : Int) == 0) = false := by have := ln_pos h0; rw [beq_eq_false_iff_ne]; omega
  clear hbx
  go_enter Tryz.func167, Tryz.ntmps167
  go_wp2_with fail
  go_loopg [0, 3] n (fun m u v wr => ∃ (A : Option Addr) (c : Nat) (ds : List Nat), u = .slice A (ln m) c ∧ Hid (ds ++ rd m = rd n) ∧ Hid (ln m ≤ 1099511627776) ∧ Nat32 wr A m ∧ wr.ownsRow w.heap.size 5 1 v ds.length (dcells ds) ∧ Hid (v = .slice none 0 0 ∨ ds ≠ []) ∧ Below w.heap.size w wr)
  case atStart => exact ⟨A, c, [], rfl, Lib.hid (by simp), HS, hx, World.ownsRow_nil _ _ _ _, Lib.hid (.inl rfl), Below.refl _ _⟩
  case round =>
    obtain ⟨A', c', ds, rfl, hD, hL, hA, hown, hnil, hb⟩ := hrel
    clear hx
    by_cases hm0 : gk = 0
    · have t1 : decide (0 < ln gk) = false := by rw [hm0, ln_zero]; rfl
      have hds : ds = rd n := by have := hD.out; rw [hm0, rd_zero] at this; simpa using this
      have hne : ds ≠ [] := by rw [hds, rd_pos h0]; simp
      obtain ⟨g, cap, f, hu, hg, hcap, hrow, hf⟩ := own_row hown hne
      have hpos : 0 < ds.length := by cases ds with | nil => exact absurd rfl hne | cons a l => simp
      have hlen : ds.length ≤ 140737488355328 := by have := HN.out; have := HS.out; rw [hds]; omega
      have HE : Hid (dec n = ((ds.reverse.map fun d => ((48 + d : Nat) : Int)).foldl (fun r n => r.push (UInt8.ofNat n.toNat)) ByteArray.empty)) := Lib.hid (by unfold dec; rw [if_neg h0, hds])
      have HB := Lib.hid hb
      clear hb hown hnil hD hds hA HN hm0
      subst hu
      go_wp2_with fail
      obtain ⟨p, hp⟩ : ∃ p, ds.length = p + 1 := ⟨ds.length - 1, by omega⟩
      have hp2 : p ≤ 140737488355327 := by omega
      have HLEN := Lib.hid hp
      have HF0 := Lib.hid hf
      obtain ⟨bv, hbv⟩ : ∃ bv : Nat → Int, bv = fun t => ((48 + ds.getD t 0 : Nat) : Int) := ⟨_, rfl⟩
      have HV : Hid (∀ t, t < p + 1 → f t = .int .u8 (bv t)) := Lib.hid (fun t ht => by rw [hbv]; exact hf t (by omega))
      have HC : Hid (p + 1 ≤ cap) := Lib.hid (by omega)
      rw [hp]
      clear hlen hpos hf hbv hcap hp
      go_wp2_with fail
      generalize wr = W0 at *
      go_loopw [7, 8] (fun i j wr => ∃ k l : Nat, i = .int .i64 (k : Int) ∧ j = .int .i64 (l : Int) ∧ Hid (k + l = p) ∧ Hid (k ≤ l + 1) ∧ wr.rowIs g 5 cap (revF f (p + 1) k) ∧ Below g W0 wr ∧ Hid (wr.heap.size = W0.heap.size)) (fun i j _ => (intOf j).toNat + 1 - (intOf i).toNat)
      case atStart => exact ⟨0, p, rfl, by first | (simp [wrap64]; done) | (simp [wrap64]; omega), Lib.hid (by omega), Lib.hid (by omega), hrow.congr (fun t ht => by unfold revF; rw [if_neg (by omega)]), Below.refl _ _, Lib.hid rfl⟩
      case round =>
        clear hrow
        obtain ⟨k, l, rfl, rfl, hkl, hk1, hrow, hb, hsz⟩ := hrel
        have HBq := Lib.hid hb
        have HR : Hid (wr.rowIs g 5 cap (revF f (p + 1) k)) := Lib.hid hrow
        clear hb
        by_cases hlt : k < l
        · have t1 : decide ((k : Int) < (l : Int)) = true := by rw [decide_eq_true_eq]; omega
          have ck : wr.cell? ⟨g, k, none⟩ = some (.int .u8 (bv k)) := by
            rw [hrow.cell (i := k) (by have := HC.out; have := hkl.out; omega)]
            unfold revF; rw [if_neg (by have := hkl.out; omega), HV.out k (by have := hkl.out; omega)]
          have cl : wr.cell? ⟨g, l, none⟩ = some (.int .u8 (bv l)) := by
            rw [hrow.cell (i := l) (by have := HC.out; have := hkl.out; omega)]
            unfold revF; rw [if_neg (by have := hkl.out; omega), HV.out l (by have := hkl.out; omega)]
          have fk := hrow.frozen k
          have fl := hrow.frozen l
          have b1 : (k : Int) < (p : Int) + 1 := by have := hkl.out; omega
          have b2 : (l : Int) < (p : Int) + 1 := by have := hkl.out; omega
          have b3 : (0 : Int) ≤ (k : Int) := by omega
          have b4 : (0 : Int) ≤ (l : Int) := by omega
          have HT := Lib.hid hlt
          clear hrow hlt
          go_wp2_with fail
          go_region
          obtain ⟨l', hl'⟩ : ∃ l', l = l' + 1 := ⟨l - 1, by have := HT.out; omega⟩
          subst hl'
          have HF : Hid ((((wr.setCell ⟨g, k, none⟩ (.int .u8 (bv (l' + 1)))).setCell ⟨g, l' + 1, none⟩ (.int .u8 (bv k))).drew).rowIs g 5 cap (revF f (p + 1) (k + 1))) := Lib.hid (((HR.out.set k _).set (l' + 1) _).drew.congr (fun t ht => by
            have e1 := hkl.out
            have e2 := HT.out
            unfold revF
            by_cases c1 : t = l' + 1
            · rw [if_pos c1, if_pos (by omega), c1, show p + 1 - 1 - (l' + 1) = k by omega, HV.out k (by omega)]
            · rw [if_neg c1]
              by_cases c2 : t = k
              · rw [if_pos c2, if_pos (by omega), c2, show p + 1 - 1 - k = l' + 1 by omega, HV.out (l' + 1) (by omega)]
              · rw [if_neg c2]
                by_cases c3 : t < k ∨ (p + 1 - k ≤ t ∧ t < p + 1)
                · rw [if_pos c3, if_pos (by omega)]
                · rw [if_neg c3, if_neg (by omega)]))
          have HB2 : Hid (Below g W0 (((wr.setCell ⟨g, k, none⟩ (.int .u8 (bv (l' + 1)))).setCell ⟨g, l' + 1, none⟩ (.int .u8 (bv k))).drew)) := Lib.hid (by
            have h1 := (HBq.out.setCell (p := ⟨g, k, none⟩) (Nat.le_refl g) (.int .u8 (bv (l' + 1)))).setCell (p := ⟨g, l' + 1, none⟩) (Nat.le_refl g) (.int .u8 (bv k))
            exact ⟨h1.os, h1.tape, h1.output, h1.size, h1.block⟩)
          have HS2 : Hid ((((wr.setCell ⟨g, k, none⟩ (.int .u8 (bv (l' + 1)))).setCell ⟨g, l' + 1, none⟩ (.int .u8 (bv k))).drew).heap.size = W0.heap.size) := Lib.hid (by have := hsz.out; simpa [World.setCell, World.drew] using this)
          generalize (((wr.setCell ⟨g, k, none⟩ (.int .u8 (bv (l' + 1)))).setCell ⟨g, l' + 1, none⟩ (.int .u8 (bv k))).drew) = X at *
          clear ck cl fk fl b1 b2 b3 b4
          have b5 : k ≤ p := by have := hkl.out; omega
          have b6 : l' ≤ p := by have := hkl.out; omega
          go_wp2_with fail
          go_roundw
          case rel => exact ⟨k + 1, l', by simp, by simp, Lib.hid (by have := hkl.out; omega), Lib.hid (by have := HT.out; omega), HF.out, HB2.out, HS2⟩
          case measure => have := HT.out; simp [intOf]; omega
        · have t1 : decide ((k : Int) < (l : Int)) = false := by rw [decide_eq_false_iff_not]; omega
          have HT := Lib.hid hlt
          have hr1 := HR.out.congr (g := fun t => if t < ds.length then f (ds.length - 1 - t) else f t) (fun t ht => by
            have e1 := hkl.out
            have e2 := HT.out
            have e3 := hk1.out
            show revF f (p + 1) k t = if t < ds.length then f (ds.length - 1 - t) else f t
            rw [HLEN.out]
            unfold revF
            by_cases c : t < p + 1
            · rw [if_pos c]
              by_cases c3 : t < k ∨ (p + 1 - k ≤ t ∧ t < p + 1)
              · rw [if_pos c3]
              · rw [if_neg c3, show p + 1 - 1 - t = t by omega]
            · rw [if_neg c, if_neg (by omega)])
          have hcv := rev_cells hr1 (by rw [HLEN.out]; exact HC.out) HF0.out cap
          rw [← HE.out, HLEN.out] at hcv
          have HB2 : Hid (Below w.heap.size w wr) := Lib.hid (HB.out.trans (HBq.out.mono hg))
          clear hrow hlt hr1
          go_wp2_with fail
          go_ret
          exact ⟨rfl, HB2.out⟩
    · have t1 : decide (0 < ln gk) = true := by have := ln_pos hm0; simpa using this
      have HB := Lib.hid hb
      have H0 := Lib.hid hm0
      clear hb hm0
      go_wp2_with fail
      refine (rdigit_any gk 1000000000 c' A' wr hA (by have := hL.out; omega) (by omega) (by omega)).mono ?_
      rintro e w1 ⟨A1, c1, rfl, h1, hb1⟩
      replace hown := own_below hown hb1
      replace HB := Lib.hid (hstep HB hb1)
      have HQ : Hid (ln (gk / 1000000000) ≤ 1099511627776) := Lib.hid (Nat.le_trans (ln_mono (Nat.div_le_self _ _)) hL.out)
      have HR : Hid (gk % 1000000000 < 10 ^ 9) := Lib.hid (Nat.mod_lt _ (by omega))
      have HD : Hid (ds ++ rd (gk / 1000000000 * 10 ^ 9 + gk % 1000000000) = rd n) := Lib.hid (by have := hD.out; rw [show gk / 1000000000 * 10 ^ 9 + gk % 1000000000 = gk by omega]; exact this)
      have HM : Hid (gk / 1000000000 < gk) := Lib.hid (by have := H0.out; omega)
      clear hb1 hD hA t1
      generalize gk % 1000000000 = r at *
      generalize gk / 1000000000 = q at *
      go_wp2_with fail
      go_loopg [3, 5, 6] 9 (fun m v rs kv wr => ∃ (kk r : Nat) (ds : List Nat), kv = .int .i64 (kk : Int) ∧ rs = .int .u32 (r : Int) ∧ Hid (kk + m = 9) ∧ Hid (r < 10 ^ m) ∧ Hid (ds ++ rd (q * 10 ^ m + r) = rd n) ∧ Nat32 wr A1 q ∧ wr.ownsRow w.heap.size 5 1 v ds.length (dcells ds) ∧ Hid (v = .slice none 0 0 ∨ ds ≠ []) ∧ Below w.heap.size w wr)
      case atStart => exact ⟨0, r, ds, rfl, rfl, Lib.hid rfl, HR, HD, h1, hown, hnil, HB.out⟩
      case round =>
        clear hown hnil HB HR HD h1 ds
        obtain ⟨kk, r, ds, rfl, rfl, hk, hr, hD, hq, hown, hnil, hb⟩ := hrel
        have HB := Lib.hid hb
        have HSn := HS.out
        clear hb
        have hc : gk = 0 ∨ (gk ≠ 0 ∧ r ≠ 0) ∨ (gk ≠ 0 ∧ r = 0 ∧ q ≠ 0) ∨ (gk ≠ 0 ∧ r = 0 ∧ q = 0) := by omega
        rcases hc with c | ⟨c, d⟩ | ⟨c, d, e⟩ | ⟨c, d, e⟩
        · have t2 : decide ((kk : Int) < 9) = false := by rw [decide_eq_false_iff_not]; have := hk.out; omega
          have C := Lib.hid c
          clear c
          go_wp2_with fail
          go_roundg q
          case measure => exact HM.out
          case rel => exact ⟨A1, c1, ds, rfl, Lib.hid (by have h1 := hr.out; rw [C.out] at h1; have h2 := hD.out; rw [C.out] at h2; rw [show q * 10 ^ 0 + r = q by simp at h1; omega] at h2; exact h2), HQ, hq, hown, hnil, HB.out⟩
        · have t2 : decide ((kk : Int) < 9) = true := by rw [decide_eq_true_eq]; have := hk.out; omega
          have t4 : decide (0 < r) = true := by rw [decide_eq_true_eq]; omega
          have t5 : decide (0 < (r : Int)) = true := by rw [decide_eq_true_eq]; omega
          have E : Hid (rd (q * 10 ^ gk + r) = r % 10 :: rd (q * 10 ^ (gk - 1) + r / 10)) := Lib.hid (by have := @rd_step q r (gk - 1) (.inr d); rwa [show gk - 1 + 1 = gk by omega] at this)
          have C := Lib.hid c
          have hlen : ds.length + 1 ≤ 10 * ln n := by
            have e := congrArg List.length hD.out
            rw [E.out, List.length_append, List.length_cons] at e
            have := HN.out; omega
          have HD : Hid (ds ++ [r % 10] ++ rd (q * 10 ^ (gk - 1) + r / 10) = rd n) := Lib.hid (by have := hD.out; rw [E.out] at this; rw [← this]; simp)
          have HR2 : Hid (r / 10 < 10 ^ (gk - 1)) := Lib.hid (by have := hr.out; rw [show gk = gk - 1 + 1 by omega, Nat.pow_succ] at this; omega)
          have HK : Hid (kk + gk = 9) := hk
          have hkk : kk < 9 := by have := hk.out; omega
          have hr9 : r < 4294967296 := by
            have h1 := hr.out
            have h2 : 10 ^ gk ≤ 10 ^ 9 := Nat.pow_le_pow_right (by omega) (by have := HK.out; omega)
            have h3 : (10 : Nat) ^ 9 = 1000000000 := by decide
            omega
          clear hD hr hk E
          go_wp2_with (at_builtin; (refine wpList_append_own _ rfl _ _ 219 rfl w.heap.size 5 i0 (.int .u8 0) 1 1 Tryz.und_bytes hi hz0 hz1 hz2 rfl (by decide) _ _ _ rfl (hown.alloc _) ⟨wr.heap.size, 0, none⟩ 1 1 [_] rfl rfl (cell_one_new _ _ _) (by intro u hu; simp at hu; subst hu; rfl) (by unfold maxLen; omega) (by omega) (by have := HB.out.size; simp; omega) ?_; intro v1 w2 hown1 hgrow1 hnil1))
          replace hgrow1 : (wr.alloc (.cells #[.int .u8 (48 + (r : Int) % 10)] 5)).grownBy w2 u3.ownBlock := hgrow1
          have hq2 := nat_grown (hq.alloc (.cells #[.int .u8 (48 + (r : Int) % 10)] 5)) (hown.alloc (.cells #[.int .u8 (48 + (r : Int) % 10)] 5)) hnil.out hgrow1
          have hb2 : Below w.heap.size w w2 := (HB.out.alloc HB.out.size _).grown hgrow1 (by have := HB.out.size; simp; omega) (fun k h => (hown.lt k h).1)
          go_roundg (gk - 1)
          case measure => have := C.out; omega
          case rel => exact ⟨kk + 1, r / 10, ds ++ [r % 10], by simp, by simp, Lib.hid (by have := HK.out; have := C.out; omega), HR2, HD, hq2, by rw [List.length_append, dcells_app]; exact hown1, Lib.hid (.inr (by simp)), hb2⟩
        · have t2 : decide ((kk : Int) < 9) = true := by rw [decide_eq_true_eq]; have := hk.out; omega
          have t3 : decide (0 < ln q) = true := by have := ln_pos e; simpa using this
          have t4 : decide (0 < r) = false := by rw [d]; rfl
          have t5 : decide (0 < (r : Int)) = false := by rw [d]; rfl
          have E : Hid (rd (q * 10 ^ gk + r) = r % 10 :: rd (q * 10 ^ (gk - 1) + r / 10)) := Lib.hid (by have := @rd_step q r (gk - 1) (.inl e); rwa [show gk - 1 + 1 = gk by omega] at this)
          have C := Lib.hid c
          clear d
          have hlen : ds.length + 1 ≤ 10 * ln n := by
            have e := congrArg List.length hD.out
            rw [E.out, List.length_append, List.length_cons] at e
            have := HN.out; omega
          have HD : Hid (ds ++ [r % 10] ++ rd (q * 10 ^ (gk - 1) + r / 10) = rd n) := Lib.hid (by have := hD.out; rw [E.out] at this; rw [← this]; simp)
          have HR2 : Hid (r / 10 < 10 ^ (gk - 1)) := Lib.hid (by have := hr.out; rw [show gk = gk - 1 + 1 by omega, Nat.pow_succ] at this; omega)
          have HK : Hid (kk + gk = 9) := hk
          have hkk : kk < 9 := by have := hk.out; omega
          have hr9 : r < 4294967296 := by
            have h1 := hr.out
            have h2 : 10 ^ gk ≤ 10 ^ 9 := Nat.pow_le_pow_right (by omega) (by have := HK.out; omega)
            have h3 : (10 : Nat) ^ 9 = 1000000000 := by decide
            omega
          clear hD hr hk E
          go_wp2_with (at_builtin; (refine wpList_append_own _ rfl _ _ 219 rfl w.heap.size 5 i0 (.int .u8 0) 1 1 Tryz.und_bytes hi hz0 hz1 hz2 rfl (by decide) _ _ _ rfl (hown.alloc _) ⟨wr.heap.size, 0, none⟩ 1 1 [_] rfl rfl (cell_one_new _ _ _) (by intro u hu; simp at hu; subst hu; rfl) (by unfold maxLen; omega) (by omega) (by have := HB.out.size; simp; omega) ?_; intro v1 w2 hown1 hgrow1 hnil1))
          replace hgrow1 : (wr.alloc (.cells #[.int .u8 (48 + (r : Int) % 10)] 5)).grownBy w2 u3.ownBlock := hgrow1
          have hq2 := nat_grown (hq.alloc (.cells #[.int .u8 (48 + (r : Int) % 10)] 5)) (hown.alloc (.cells #[.int .u8 (48 + (r : Int) % 10)] 5)) hnil.out hgrow1
          have hb2 : Below w.heap.size w w2 := (HB.out.alloc HB.out.size _).grown hgrow1 (by have := HB.out.size; simp; omega) (fun k h => (hown.lt k h).1)
          go_roundg (gk - 1)
          case measure => have := C.out; omega
          case rel => exact ⟨kk + 1, r / 10, ds ++ [r % 10], by simp, by simp, Lib.hid (by have := HK.out; have := C.out; omega), HR2, HD, hq2, by rw [List.length_append, dcells_app]; exact hown1, Lib.hid (.inr (by simp)), hb2⟩
        · have t2 : decide ((kk : Int) < 9) = true := by rw [decide_eq_true_eq]; have := hk.out; omega
          have t3 : decide (0 < ln q) = false := by rw [e, ln_zero]; rfl
          have t4 : decide (0 < r) = false := by rw [d]; rfl
          have t5 : decide (0 < (r : Int)) = false := by rw [d]; rfl
          have D := Lib.hid e
          have E := Lib.hid d
          clear c d e
          go_wp2_with fail
          go_roundg q
          case measure => exact HM.out
          case rel => exact ⟨A1, c1, ds, rfl, Lib.hid (by have h2 := hD.out; rw [D.out, E.out] at h2; rw [D.out]; simpa using h2), HQ, hq, hown, hnil, HB.out⟩
theorem rtext_zero (c : Nat) (A : Option Addr) (w : World) : Calls Tryz.prog 167 #[.slice A 0 c] w (RetStr w (dec 0)) := by
  go_enter Tryz.func167, Tryz.ntmps167
  go_wp2_with fail
  go_ret
  exact ⟨rfl, Below.refl _ _⟩
/-- 'NatText'. -/
theorem rtext_any (n c : Nat) (A : Option Addr) (w : World) (hx : Nat32 w A n) (hbx : ln n ≤ 1099511627776) :
    Calls Tryz.prog 167 #[.slice A (ln n) c] w (RetStr w (dec n)) := by
  by_cases h : n = 0
  · subst h; rw [ln_zero]; exact rtext_zero c A w
  · exact rtext_more n c A w hx hbx h
end Go.Proofs.YtgpmlhpgdalheaaGreat

namespace Go.Proofs.YtgpmlhpgdalheaaGreat
open Go.RowKit Pl
set_option linter.unusedVariables false
set_option linter.unusedSimpArgs false

set_option maxHeartbeats 1000000 in
theorem rshl_pos (x n q r : Nat) (A : Option Addr) (c : Nat) (w : World) (hx : Nat32 w A x) (hbx : ln x ≤ 35184372088832) (hn : n ≤ 1099511627776) (hx0 : x ≠ 0) (hnq : n = 32 * q + r) (hr : r < 32) :
    Calls Tryz.prog 118 #[.slice A (ln x) c, .int .i64 (n : Nat)] w (RetNatC w (x * 2 ^ n)) := by
  have hmk := mk_words (ln x + q + 1) (by omega)
  have ec : ((ln x + q + 1 : Nat) : Int) = (ln x : Int) + (q : Int) + 1 := by omega
  rw [ec] at hmk
  clear ec
  have lx := ln_pos hx0
  have t1 : ((ln x : Int) == 0) = false := by simpa using fun e => by omega
  have hq : (n : Int) / 32 = (q : Int) := by omega
  have hr' : (n : Int) % 32 = (r : Int) := by omega
  obtain ⟨b, rfl, hb, hcx⟩ := hx hx0
  have HX := Lib.hid hcx
  have HN := Lib.hid hnq
  clear hcx hnq
  go_enter Tryz.func118, Tryz.ntmps118
  go_wp2_with fail
  have hrow := (World.rowIs_made w (.int .u32 0) (ln x + q + 1) 45).congr (g := rowN (sp x q r 0)) fun j _ => by rw [sp_zero, rowN_zero]
  have hbel := (Below.refl w.heap.size w).alloc (Nat.le_refl _) (.cells (madeCells #[.int .u32 0] (ln x + q + 1)) 45)
  clear hmk
  have hqb : q ≤ 1099511627776 := by have := HN.out; omega
  go_loopw [6] (fun i wr => ∃ k : Nat, k ≤ ln x ∧ i = .int .i64 k ∧ wr.rowIs w.heap.size 45 (ln x + q + 1) (rowN (sp x q r k)) ∧ Below w.heap.size w wr) (fun i _ => ln x - (intOf i).toNat)
  case atStart => exact ⟨0, Nat.zero_le _, rfl, hrow, hbel⟩
  case round =>
    obtain ⟨i, hi, rfl, hrowi, hbeli⟩ := hrel
    clear hrow hbel
    by_cases hlt : i < ln x
    · have hxi := (hbeli.cell (p := ⟨b, i, none⟩) hb).trans (HX.out i hlt)
      have b1 := wd_lt x i
      have hst := hrowi.cell (i := i + q) (by omega)
      have hfr := hrowi.frozen (i + q)
      have hst1 := hrowi.cell (i := i + q + 1) (by omega)
      have hfr1 := hrowi.frozen (i + q + 1)
      unfold rowN at hst hst1
      have hw : IntKind.u64.wrap ((wd x i : Int) * 2 ^ r) = (shw x i r : Nat) := shw_wrap x i hr
      have hwb := shw_lt x i hr
      have hor := shl_or x q i hr
      go_wp2
      go_roundw
      case rel => exact ⟨i + 1, by omega, by go_num, ((hrowi.set _ _).set _ _).congr fun j _ => shl_row x q i j hr (int_val (by rw [← sp_above x q i hr]; rfl)) rfl, (hbeli.setCell (by simp) _).setCell (by simp) _⟩
      case measure => simp [intOf]; omega
    · obtain rfl : i = ln x := by omega
      have e : sp x q r (ln x) = x * 2 ^ n := by rw [sp, Nat.mod_eq_of_lt (lt_ln x), HN.out]
      have hN : x * 2 ^ n < 4294967296 ^ (ln x + q + 1) := by rw [← e]; exact sp_lt x q (ln x) hr
      rw [e] at hrowi
      clear e
      go_wp2_with fail
      refine (rtrim_any _ w.heap.size (ln x + q + 1) (ln x + q + 1) (x * 2 ^ n) (by omega) (by omega) hN fun j hj => hrowi.cell hj).mono ?_
      rintro e w' ⟨rfl, rfl⟩
      go_wp2
      go_ret
      exact ⟨_, _, rfl, Nat32.ofRow hrowi (ln_le hN) fun j hj => rfl, hbeli⟩

set_option maxHeartbeats 400000 in
/-- 'NatShl'. -/
theorem rshl_any (x n : Nat) (A : Option Addr) (c : Nat) (w : World) (hx : Nat32 w A x) (hbx : ln x ≤ 35184372088832) (hn : n ≤ 1099511627776) :
    Calls Tryz.prog 118 #[.slice A (ln x) c, .int .i64 (n : Nat)] w (RetNatC w (x * 2 ^ n)) := by
  by_cases hx0 : x = 0
  · have h : RetNatC w (x * 2 ^ n) (.returned (.slice none 0 0)) w := ⟨none, 0, by rw [hx0, Nat.zero_mul, ln_zero], by rw [hx0, Nat.zero_mul]; exact Nat32.zero _ _, Below.refl _ _⟩
    have t1 : ((ln x : Int) == 0) = true := by rw [hx0, ln_zero]; rfl
    have H := Lib.hid h
    clear h hx0
    go_enter Tryz.func118, Tryz.ntmps118
    go_wp2
    go_ret
    exact H.out
  · exact rshl_pos x n (n / 32) (n % 32) A c w hx hbx hn hx0 (by omega) (by omega)

theorem retNatC_nil {w w' : World} {n : Nat} (hn : n = 0) (hb : Below w.heap.size w w') : RetNatC w n (.returned (.slice none 0 0)) w' :=
  ⟨none, 0, by rw [hn, ln_zero], by rw [hn]; exact Nat32.zero _ _, hb⟩

set_option maxHeartbeats 1000000 in
theorem rshr_pos (x n q r : Nat) (A : Option Addr) (c : Nat) (w : World) (hx : Nat32 w A x) (hbx : ln x ≤ 35184372088832) (hn : n ≤ 1099511627776) (hnq : n = 32 * q + r) (hr : r < 32) (hql : q < ln x) :
    Calls Tryz.prog 149 #[.slice A (ln x) c, .int .i64 (n : Nat)] w (RetNatC w (x / 2 ^ n)) := by
  have hx0 : x ≠ 0 := fun e => by rw [e, ln_zero] at hql; omega
  have hmk := mk_words (ln x - q) (by omega)
  have ec : ((ln x - q : Nat) : Int) = (ln x : Int) - (q : Int) := by omega
  rw [ec] at hmk
  have hN : x / 2 ^ n < 4294967296 ^ (ln x - q) := shr_lt hnq (by omega)
  have hq : (n : Int) / 32 = (q : Int) := by omega
  have hr' : (n : Int) % 32 = (r : Int) := by omega
  have ht : decide (ln x ≤ q) = false := by simpa using hql
  obtain ⟨b, rfl, hb, hcx⟩ := hx hx0
  have HX := Lib.hid hcx
  have HN := Lib.hid hnq
  have EC := Lib.hid ec
  clear hcx hnq ec
  go_enter Tryz.func149, Tryz.ntmps149
  go_wp2_with fail
  have hrow := (World.rowIs_made w (.int .u32 0) (ln x - q) 45).congr (g := part (x / 2 ^ n) 0) fun j _ => (part_zero _ _).symm
  have hbel := (Below.refl w.heap.size w).alloc (Nat.le_refl _) (.cells (madeCells #[.int .u32 0] (ln x - q)) 45)
  clear hmk
  have hqb : q ≤ 1099511627776 := by have := HN.out; omega
  go_loopw [6] (fun i wr => ∃ k : Nat, k ≤ ln x - q ∧ i = .int .i64 k ∧ wr.rowIs w.heap.size 45 (ln x - q) (part (x / 2 ^ n) k) ∧ Below w.heap.size w wr) (fun i _ => ln x - q - (intOf i).toNat)
  case atStart => exact ⟨0, Nat.zero_le _, rfl, hrow, hbel⟩
  case round =>
    obtain ⟨k, hk, rfl, hrowk, hbelk⟩ := hrel
    clear hrow hbel
    by_cases hlt : k < ln x - q
    · have hxk := (hbelk.cell (p := ⟨b, k + q, none⟩) hb).trans (HX.out (k + q) (by omega))
      have hst := hrowk.cell (i := k) (by omega)
      have hfr := hrowk.frozen k
      have b1 := wd_lt x (k + q)
      by_cases hly : k + q + 1 < ln x
      · have hxk1 := (hbelk.cell (p := ⟨b, k + q + 1, none⟩) hb).trans (HX.out (k + q + 1) (by omega))
        have b2 := wd_lt x (k + q + 1)
        have hor := tw_or x (k + q)
        have b3 := tw_lt x (k + q)
        go_wp2
        go_roundw
        case rel => exact ⟨k + 1, by omega, by go_num, (hrowk.set _ _).congr fun j _ => part_step _ _ _ _ (int_val (shr_val HN.out hr)), hbelk.setCell (by simp) _⟩
        case measure => simp [intOf]; omega
      · have HT := Lib.hid (tw_top (x := x) (i := k + q) (by omega))
        go_wp2
        go_roundw
        case rel => exact ⟨k + 1, by omega, by go_num, (hrowk.set _ _).congr fun j _ => part_step _ _ _ _ (int_val (by rw [← shr_val HN.out hr, HT.out])), hbelk.setCell (by simp) _⟩
        case measure => simp [intOf]; omega
    · have HE := Lib.hid (show k = ln x - q by omega)
      go_wp2_with fail
      refine (rtrim_any _ w.heap.size (ln x - q) (ln x - q) (x / 2 ^ n) (by omega) (by omega) hN fun j hj => by rw [hrowk.cell hj, part_below (by have := HE.out; omega)]).mono ?_
      rintro e w' ⟨rfl, rfl⟩
      go_wp2
      go_ret
      exact ⟨_, _, rfl, Nat32.ofRow hrowk (ln_le hN) fun j hj => part_below (by have := ln_le hN; have := HE.out; omega), hbelk⟩
set_option maxHeartbeats 400000 in
/-- 'NatShr'. -/
theorem rshr_any (x n : Nat) (A : Option Addr) (c : Nat) (w : World) (hx : Nat32 w A x) (hbx : ln x ≤ 35184372088832) (hn : n ≤ 1099511627776) :
    Calls Tryz.prog 149 #[.slice A (ln x) c, .int .i64 (n : Nat)] w (RetNatC w (x / 2 ^ n)) := by
  obtain ⟨q, r, hnq, hr⟩ : ∃ q r, n = 32 * q + r ∧ r < 32 := ⟨n / 32, n % 32, by omega, by omega⟩
  by_cases hql : q < ln x
  · exact rshr_pos x n q r A c w hx hbx hn hnq hr hql
  · have H := Lib.hid (retNatC_nil (w := w) (w' := w) (shr_all (x := x) hnq (by omega)) (Below.refl _ _))
    have hq : (n : Int) / 32 = (q : Int) := by omega
    have hr' : (n : Int) % 32 = (r : Int) := by omega
    have hqb : q ≤ 1099511627776 := by omega
    clear hnq
    go_enter Tryz.func149, Tryz.ntmps149
    go_wp2
    go_ret
    exact H.out

theorem bitLen_half (t : Nat) (ht : t ≠ 0) (hb : t < 4294967296) : Lib.bitLen (t / 2) + 1 = Lib.bitLen t := by
  obtain ⟨h1, h2, h3⟩ := Lib.bitLenAux_bounds 64 t (Nat.lt_trans hb (by decide)) ht
  have e : Lib.bitLenAux 64 t = Lib.bitLen t := rfl
  rw [e] at h1 h2 h3
  by_cases h0 : t / 2 = 0
  · have : t = 1 := by omega
    subst this; rfl
  · obtain ⟨g1, g2, g3⟩ := Lib.bitLenAux_bounds 64 (t / 2) (Nat.lt_trans (show t / 2 < 4294967296 by omega) (by decide)) h0
    have e : Lib.bitLenAux 64 (t / 2) = Lib.bitLen (t / 2) := rfl
    rw [e] at g1 g2 g3
    have a1 : 2 ^ Lib.bitLen (t / 2) ≤ t := by
      have : 2 ^ Lib.bitLen (t / 2) = 2 * 2 ^ (Lib.bitLen (t / 2) - 1) := by rw [← Nat.pow_succ']; congr 1; omega
      omega
    have a2 : t < 2 ^ (Lib.bitLen (t / 2) + 1) := by rw [Nat.pow_succ]; omega
    have b1 : Lib.bitLen (t / 2) < Lib.bitLen t := (Nat.pow_lt_pow_iff_right (a := 2) (by omega)).1 (Nat.lt_of_le_of_lt a1 h3)
    have b2 : Lib.bitLen t - 1 < Lib.bitLen (t / 2) + 1 := (Nat.pow_lt_pow_iff_right (a := 2) (by omega)).1 (Nat.lt_of_le_of_lt h2 a2)
    omega

/-- The number of bits. -/
def nbits (y : Nat) : Nat := if y = 0 then 0 else 32 * (ln y - 1) + Lib.bitLen (wd y (ln y - 1))

set_option maxHeartbeats 400000 in
/-- 'NatBits'. -/
theorem rbits_any (y c : Nat) (A : Option Addr) (w : World) (hy : Nat32 w A y) (hby : ln y ≤ 35184372088832) :
    Calls Tryz.prog 148 #[.slice A (ln y) c] w fun e w' => e = .returned (.int .i64 (nbits y : Nat)) ∧ w = w' := by
  by_cases hy0 : y = 0
  · have t1 : ((ln y : Int) == 0) = true := by rw [hy0, ln_zero]; rfl
    have H := Lib.hid (show nbits y = 0 by rw [hy0]; rfl)
    clear hy0
    go_enter Tryz.func148, Tryz.ntmps148
    go_wp2
    go_ret
    exact ⟨ret_int (by rw [H.out]; rfl), rfl⟩
  · have lx := ln_pos hy0
    have t1 : ((ln y : Int) == 0) = false := by simpa using fun e => by omega
    obtain ⟨b, rfl, hb, hc⟩ := hy hy0
    have hxk := hc (ln y - 1) (by omega)
    have HB := Lib.hid (show nbits y = 32 * (ln y - 1) + Lib.bitLen (wd y (ln y - 1)) by unfold nbits; rw [if_neg hy0])
    have bw := wd_lt y (ln y - 1)
    have HBL := Lib.hid (Lib.bitLen_le _ 32 (by omega) bw)
    clear hc hy0
    go_enter Tryz.func148, Tryz.ntmps148
    go_wp2_with fail
    go_loop [3, 4] (fun n x => ∃ t m : Nat, t < 4294967296 ∧ x = .int .u32 t ∧ n = .int .i64 m ∧ m + Lib.bitLen t = Lib.bitLen (wd y (ln y - 1))) (fun _ x => (intOf x).toNat)
    case atStart => exact ⟨_, 0, bw, rfl, rfl, Nat.zero_add _⟩
    case round =>
      obtain ⟨t, m, ht, rfl, rfl, hm⟩ := hrel
      have HM := Lib.hid hm
      have hmb : m ≤ 32 := by have := HBL.out; omega
      clear hm
      by_cases h0 : 0 < t
      · have HH := Lib.hid (bitLen_half t (by omega) ht)
        go_wp2_with fail
        go_round
        case rel => exact ⟨t / 2, m + 1, by omega, int_val (by omega), by go_num, by have := HH.out; have := HM.out; omega⟩
        case measure => simp [intOf]; omega
      · obtain rfl : t = 0 := by omega
        have hz : Lib.bitLen 0 = 0 := rfl
        have HZ := Lib.hid hz
        clear hz
        go_wp2_with fail
        go_ret
        exact ⟨ret_int (by rw [HB.out]; have := HM.out; rw [HZ.out] at this; omega), rfl⟩

theorem nbits_lz {y : Nat} (hy : y ≠ 0) : nbits y + lz y = 32 * ln y := by
  have h := (lz_bounds (wd_last hy) (wd_lt _ _)).1
  have := ln_pos hy
  unfold nbits lz; rw [if_neg hy]; omega

end Go.Proofs.YtgpmlhpgdalheaaGreat
