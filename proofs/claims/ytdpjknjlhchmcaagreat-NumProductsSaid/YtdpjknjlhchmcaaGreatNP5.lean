/- Part 5 of the proof. -/
import Derived.Test.YtdpjknjlhchmcaaGreatNP1
import Derived.Test.YtdpjknjlhchmcaaGreatNP3
import Derived.Shelf.Bits.Mul64
import Derived.Test.YtdpjknjlhchmcaaGreatNP2
namespace Go.Proofs.YtdpjknjlhchmcaaGreat
open Go.RowKit Pl
set_option linter.unusedVariables false
set_option linter.unusedSimpArgs false
/-- A call of the reference hands back a number in words, in a slice of any capacity. -/
def RetNatC (w : World) (n : Nat) (e : Ending) (w' : World) : Prop := ∃ A c, e = .returned (.slice A (ln n) c) ∧ Nat32 w' A n ∧ Below w.heap.size w w'
set_option maxHeartbeats 400000 in
theorem rtrim_any (w : World) (g m c N : Nat) (hm : m ≤ 70368744177664) (hmc : m ≤ c) (hN : N < 4294967296 ^ m) (hc : ∀ j, j < m → w.cell? ⟨g, j, none⟩ = some (.int .u32 (wd N j : Nat))) :
    Calls Tryz.prog 134 #[.slice (some ⟨g, 0, none⟩) m c] w fun e w' => e = .returned (.slice (some ⟨g, 0, none⟩) (ln N) c) ∧ w = w' := by
  go_enter Tryz.func134, Tryz.ntmps134
  go_wp2
  go_loop [3] (fun i => ∃ k : Nat, k ≤ m ∧ N < 4294967296 ^ k ∧ i = .int .i64 k) (fun i => (intOf i).toNat)
  case atStart => exact ⟨m, Nat.le_refl _, hN, rfl⟩
  case round =>
    obtain ⟨k, hk, hNk, rfl⟩ := hrel
    have hcell : 0 < k → w.cell? ⟨g, k - 1, none⟩ = some (.int .u32 (wd N (k - 1) : Nat)) := fun _ => hc _ (by omega)
    have hkc : k ≤ c := by omega
    go_wp2
    · have h0 : ((wd N (k - 1) : Int) == 0) = true := by assumption
      have hk0 : 0 < k := by assumption
      go_round
      case rel => exact ⟨k - 1, by omega, lt_of_top hk0 hNk (by simpa using h0), by go_num⟩
      case measure => simp [intOf]; omega
    · have h0 : ((wd N (k - 1) : Int) == 0) = false := by assumption
      have hk0 : 0 < k := by assumption
      have e := ln_of_lt hNk (.inr (by simpa using h0))
      go_ret
      exact ⟨by rw [e]; rfl, rfl⟩
    · have hk0 : k = 0 := by omega
      have e := ln_of_lt hNk (.inl hk0)
      go_ret
      exact ⟨by rw [e]; rfl, rfl⟩
set_option maxHeartbeats 400000 in
theorem rnatOf_any (N : Nat) (hN : N < 18446744073709551616) (w : World) :
    Calls Tryz.prog 137 #[.int .u64 N] w (RetNatC w N) := by
  go_enter Tryz.func137, Tryz.ntmps137
  go_wp2_with fail
  refine (rtrim_any _ w.heap.size 2 2 N (by omega) (by omega) hN ?_).mono ?_
  · intro j hj
    rw [World.cell?_alloc_new]
    exact natOf_words N j hN hj
  rintro e w' ⟨rfl, rfl⟩
  go_wp2
  go_ret
  exact ⟨_, _, rfl, fun _ => ⟨w.heap.size, rfl, by simp, fun j hj => by
    rw [World.cell?_alloc_new]
    exact natOf_words N j hN (by have := ln_le (n := N) (k := 2) hN; omega)⟩, (Below.refl _ _).alloc (Nat.le_refl _) _⟩
set_option maxHeartbeats 400000 in
theorem rcmp_eq (x y : Nat) (A B : Option Addr) (c d : Nat) (w : World) (hx : Nat32 w A x) (hy : Nat32 w B y) (hbx : ln x ≤ 35184372088832) (hl : ln y = ln x) :
    Calls Tryz.prog 132 #[.slice A (ln x) c, .slice B (ln x) d] w (RetInt w (cmpN x y)) := by
  have HL := Lib.hid hl
  clear hl
  go_enter Tryz.func132, Tryz.ntmps132
  go_wp2_with fail
  go_loopw [5] (fun i wr => ∃ k : Nat, k ≤ ln x ∧ i = .int .i64 ((k : Int) - 1) ∧ x / 4294967296 ^ k = y / 4294967296 ^ k ∧ Below w.heap.size w wr) (fun i _ => (intOf i + 1).toNat)
  case atStart => exact ⟨ln x, Nat.le_refl _, by go_num, by rw [Nat.div_eq_of_lt (lt_ln x), ← HL.out, Nat.div_eq_of_lt (lt_ln y)], Below.refl _ _⟩
  case round =>
    obtain ⟨k, hk, rfl, hdiv, hbelk⟩ := hrel
    have HD := Lib.hid hdiv
    clear hdiv
    by_cases hk0 : 0 < k
    · have hx0 : x ≠ 0 := fun e => by rw [e, ln_zero] at hk; omega
      have hy0 : y ≠ 0 := fun e => by have := HL.out; rw [e, ln_zero] at this; omega
      obtain ⟨b, rfl, hb, hcx⟩ := hx hx0
      obtain ⟨b', rfl, hb', hcy⟩ := hy hy0
      have hxk := (hbelk.cell (p := ⟨b, k - 1, none⟩) hb).trans (hcx (k - 1) (by omega))
      have hyk := (hbelk.cell (p := ⟨b', k - 1, none⟩) hb').trans (hcy (k - 1) (by have := HL.out; omega))
      clear hcx hcy
      rcases Nat.lt_trichotomy (wd x (k - 1)) (wd y (k - 1)) with h | h | h
      · have hn : ((wd x (k - 1) : Int) != (wd y (k - 1) : Int)) = true := by rw [bne_iff_ne]; omega
        go_wp2
        go_quiet (fail)
        go_wp2
        go_quiet (fail)
        go_wp2
        go_ret
        exact ⟨ret_int (cmpN_lt ((hi_step hk0 HD.out).1 h)).symm, below_drewN (below_drewN hbelk _) _⟩
      · have h1 : ¬ wd x (k - 1) < wd y (k - 1) := by omega
        have h2 : ¬ wd y (k - 1) < wd x (k - 1) := by omega
        have hn : ((wd x (k - 1) : Int) != (wd y (k - 1) : Int)) = false := by rw [h]; simp
        have HE := Lib.hid h
        clear h
        go_wp2
        go_quiet (fail)
        go_wp2
        go_roundw
        case rel => exact ⟨k - 1, by omega, by go_num, (hi_step hk0 HD.out).2 HE.out, below_drewN hbelk _⟩
        case measure => simp [intOf]; omega
      · have h1 : ¬ wd x (k - 1) < wd y (k - 1) := by omega
        have hn : ((wd x (k - 1) : Int) != (wd y (k - 1) : Int)) = true := by rw [bne_iff_ne]; omega
        go_wp2
        go_quiet (fail)
        go_wp2
        go_quiet (fail)
        go_wp2
        go_ret
        exact ⟨ret_int (cmpN_gt ((hi_step hk0 HD.out.symm).1 h)).symm, below_drewN (below_drewN hbelk _) _⟩
    · obtain rfl : k = 0 := by omega
      go_wp2
      go_ret
      exact ⟨ret_int (cmpN_eq (by have := HD.out; simpa using this)).symm, hbelk⟩
set_option maxHeartbeats 400000 in
/-- 'NatCmp'. -/
theorem rcmp_any (x y : Nat) (A B : Option Addr) (c d : Nat) (w : World) (hx : Nat32 w A x) (hy : Nat32 w B y) (hbx : ln x ≤ 35184372088832) :
    Calls Tryz.prog 132 #[.slice A (ln x) c, .slice B (ln y) d] w (RetInt w (cmpN x y)) := by
  rcases Nat.lt_trichotomy (ln x) (ln y) with h | h | h
  · have hc := cmpN_lt (lt_of_ln_lt h)
    have hne : ((ln x : Int) != (ln y : Int)) = true := by rw [bne_iff_ne]; omega
    rw [hc]
    clear hc
    go_enter Tryz.func132, Tryz.ntmps132
    go_wp2
    go_ret
    exact ⟨rfl, Below.refl _ _⟩
  · rw [← h]
    exact rcmp_eq x y A B c d w hx hy hbx h.symm
  · have hc := cmpN_gt (lt_of_ln_lt h)
    have hne : ((ln x : Int) != (ln y : Int)) = true := by rw [bne_iff_ne]; omega
    rw [hc]
    clear hc
    go_enter Tryz.func132, Tryz.ntmps132
    go_wp2
    go_ret
    exact ⟨rfl, Below.refl _ _⟩
end Go.Proofs.YtdpjknjlhchmcaaGreat

namespace Go.Proofs.YtdpjknjlhchmcaaGreat
open Go.RowKit Pl
set_option linter.unusedVariables false
set_option linter.unusedSimpArgs false
theorem dig_facts {h l y : Nat} (hy0 : 0 < y) (hy : y < 4294967296) (hh : h < y) (hl' : l < 4294967296) :
    ((hl h l : Int).tdiv (y : Int)) = (dq h l y : Nat) ∧ ((hl h l : Int).tmod (y : Int)) = (dr h l y : Nat) ∧ dq h l y < 4294967296 ∧ dr h l y < 4294967296 := by
  have b2 : hl h l / y < 4294967296 := (Nat.div_lt_iff_lt_mul (by omega)).2 (by
    have : (h + 1) * 4294967296 ≤ y * 4294967296 := Nat.mul_le_mul_right _ hh
    unfold hl; rw [Nat.mul_comm 4294967296]; omega)
  have b3 : hl h l % y < y := Nat.mod_lt _ (by omega)
  have e1 : (hl h l : Int) / (y : Int) = ((hl h l / y : Nat) : Int) := (Int.natCast_ediv _ _).symm
  have e2 : (hl h l : Int) % (y : Int) = ((hl h l % y : Nat) : Int) := (Int.natCast_emod _ _).symm
  refine ⟨?_, ?_, ?_, ?_⟩
  · rw [Int.tdiv_eq_ediv_of_nonneg (by omega), e1]; unfold dq; rfl
  · rw [Int.tmod_eq_emod_of_nonneg (by omega), e2]; unfold dr; rfl
  · unfold dq; exact b2
  · unfold dr; exact Nat.lt_trans b3 hy
def RetShortC (w : World) (q r : Nat) (e : Ending) (w' : World) : Prop := ∃ A c, e = .returned (.tuple #[.slice A (ln q) c, .int .u32 (r : Nat)]) ∧ Nat32 w' A q ∧ Below w.heap.size w w'
set_option maxHeartbeats 1000000 in
/-- 'natDigit'. -/
theorem rdigit_any (x y c : Nat) (A : Option Addr) (w : World) (hx : Nat32 w A x) (hbx : ln x ≤ 35184372088832) (hy0 : 0 < y) (hy : y < 4294967296) :
    Calls Tryz.prog 146 #[.slice A (ln x) c, .int .u32 (y : Nat)] w (RetShortC w (x / y) (x % y)) := by
  have hmk := mk_words (ln x) (by omega)
  have hN : x / y < 4294967296 ^ ln x := lt_of_ln (ln_mono (Nat.div_le_self _ _))
  have hy1 : ((y : Int) == 0) = false := by rw [beq_eq_false_iff_ne]; omega
  go_enter Tryz.func146, Tryz.ntmps146
  go_wp2_with fail
  have hrow := (World.rowIs_made w (.int .u32 0) (ln x) 127).congr (g := above (x / y) (ln x)) fun j hj => (above_all _ hj).symm
  have hbel := (Below.refl w.heap.size w).alloc (Nat.le_refl _) (.cells (madeCells #[.int .u32 0] (ln x)) 127)
  clear hmk
  go_loopw [7, 8] (fun r i wr => ∃ k : Nat, k ≤ ln x ∧ i = .int .i64 ((k : Int) - 1) ∧ r = .int .u64 (rs x y k : Nat) ∧ wr.rowIs w.heap.size 127 (ln x) (above (x / y) k) ∧ Below w.heap.size w wr) (fun _ i _ => (intOf i + 1).toNat)
  case atStart => exact ⟨ln x, Nat.le_refl _, by go_num, by rw [rs_top]; rfl, hrow, hbel⟩
  case round =>
    obtain ⟨k, hk, rfl, rfl, hrowk, hbelk⟩ := hrel
    clear hrow hbel
    by_cases hk0 : 0 < k
    · have hx0 : x ≠ 0 := fun e => by rw [e, ln_zero] at hk; omega
      obtain ⟨b, rfl, hb, hcx⟩ := hx hx0
      have hxk := (hbelk.cell (p := ⟨b, k - 1, none⟩) hb).trans (hcx (k - 1) (by omega))
      have hst := hrowk.cell (i := k - 1) (by omega)
      have hfr := hrowk.frozen (k - 1)
      have hrl := rs_lt x k hy0
      have hwl := wd_lt x (k - 1)
      obtain ⟨d1, d2, d3, d4⟩ := dig_facts hy0 hy hrl hwl
      have hor := hl_or (h := rs x y k) (l := wd x (k - 1)) (by omega) hwl
      rw [show ((rs x y k * 4294967296 + wd x (k - 1) : Nat) : Int) = (hl (rs x y k) (wd x (k - 1)) : Nat) from rfl] at hor
      have HW := Lib.hid (rs_word (x := x) hy0 hk0)
      have HR := Lib.hid (rs_rest (x := x) (y := y) hk0)
      have hb0 : rs x y k < 4294967296 := by omega
      have hh : hl (rs x y k) (wd x (k - 1)) < 18446744073709551616 := by unfold hl; omega
      clear hcx hrl
      go_wp2_with fail
      go_roundw
      case rel => exact ⟨k - 1, by omega, by go_num, int_val (by rw [HR.out]), (hrowk.set _ _).congr fun j _ => above_step hk0 (int_val (by rw [HW.out])), hbelk.setCell (by simp) _⟩
      case measure => simp [intOf]; omega
    · obtain rfl : k = 0 := by omega
      have hR := rs_zero x y
      go_wp2_with fail
      refine (rtrim_any _ w.heap.size (ln x) (ln x) (x / y) (by omega) (by omega) hN fun j hj => by rw [hrowk.cell hj, above_zero]).mono ?_
      rintro e w' ⟨rfl, rfl⟩
      have hb9 : x % y < 4294967296 := Nat.lt_trans (Nat.mod_lt _ hy0) hy
      go_wp2
      refine bodyPost_ret (v := .tuple #[.slice (some ⟨w.heap.size, 0, none⟩) (ln (x / y)) (ln x), .int .u32 ((x % y : Nat) : Int)]) (by simp [results, Tryz.results146, go_sem]) rfl ?_
      exact ⟨_, _, rfl, Nat32.ofRow hrowk (ln_le hN) fun j hj => above_zero _ _, hbelk⟩
end Go.Proofs.YtdpjknjlhchmcaaGreat

namespace Go.Proofs.YtdpjknjlhchmcaaGreat
open Go.RowKit Pl
set_option linter.unusedVariables false
set_option linter.unusedSimpArgs false
set_option maxRecDepth 100000 in
set_option maxHeartbeats 4000000 in
theorem rtext_more (n c : Nat) (A : Option Addr) (w : World) (hx : Nat32 w A n) (hbx : ln n ≤ 1099511627776) (h0 : n ≠ 0) :
    Calls Tryz.prog 138 #[.slice A (ln n) c] w (RetStr w (dec n)) := by
  obtain ⟨i0, hi, hz0, hz1, hz2⟩ := info_parts Tryz.info_u8
  have HN : Hid ((rd n).length ≤ 10 * ln n) := Lib.hid (rd_ln n)
  have HS : Hid (ln n ≤ 1099511627776) := Lib.hid hbx
  have t0 : decide (ln n = 0) = false := by have := ln_pos h0; rw [decide_eq_false_iff_not]; omega
  have t0' : ((ln n : Int) == 0) = false := by have := ln_pos h0; rw [beq_eq_false_iff_ne]; omega
  clear hbx
  go_enter Tryz.func138, Tryz.ntmps138
  go_wp2_with fail
  go_loopg [0, 3] n (fun m u v wr => ∃ (A : Option Addr) (c : Nat) (ds : List Nat), u = .slice A (ln m) c ∧ Hid (ds ++ rd m = rd n) ∧ Hid (ln m ≤ 1099511627776) ∧ Nat32 wr A m ∧ wr.ownsRow w.heap.size 5 1 v ds.length (dcells ds) ∧ Hid (v = .slice none 0 0 ∨ ds ≠ []) ∧ Below w.heap.size w wr)
  case atStart => exact ⟨A, c, [], rfl, Lib.hid (by simp), HS, hx, World.ownsRow_nil _ _ _ _, Lib.hid (.inl rfl), Below.refl _ _⟩
  case round =>
    obtain ⟨A', c', ds, rfl, hD, hL, hA, hown, hnil, hb⟩ := hrel
    clear hx
    by_cases hm0 : gk = 0
    · have t1 : decide (0 < ln gk) = false := by rw [hm0, ln_zero]; rfl
      have hds : ds = rd n := by have := hD.out; rw [hm0, rd_zero] at this; simpa using this
      have hne : ds ≠ [] := by rw [hds, rd_pos h0]; simp
      obtain ⟨g, cap, f, hu, hg, hcap, hrow, hf⟩ := own_row hown hne
      have hpos : 0 < ds.length := by cases ds with | nil => exact absurd rfl hne | cons a l => simp
      have hlen : ds.length ≤ 140737488355328 := by have := HN.out; have := HS.out; rw [hds]; omega
      have HE : Hid (dec n = ((ds.reverse.map fun d => ((48 + d : Nat) : Int)).foldl (fun r n => r.push (UInt8.ofNat n.toNat)) ByteArray.empty)) := Lib.hid (by unfold dec; rw [if_neg h0, hds])
      have HB := Lib.hid hb
      clear hb hown hnil hD hds hA HN hm0
      subst hu
      go_wp2_with fail
      obtain ⟨p, hp⟩ : ∃ p, ds.length = p + 1 := ⟨ds.length - 1, by omega⟩
      have hp2 : p ≤ 140737488355327 := by omega
      have HLEN := Lib.hid hp
      have HF0 := Lib.hid hf
      obtain ⟨bv, hbv⟩ : ∃ bv : Nat → Int, bv = fun t => ((48 + ds.getD t 0 : Nat) : Int) := ⟨_, rfl⟩
      have HV : Hid (∀ t, t < p + 1 → f t = .int .u8 (bv t)) := Lib.hid (fun t ht => by rw [hbv]; exact hf t (by omega))
      have HC : Hid (p + 1 ≤ cap) := Lib.hid (by omega)
      rw [hp]
      clear hlen hpos hf hbv hcap hp
      go_wp2_with fail
      generalize wr = W0 at *
      go_loopw [7, 8] (fun i j wr => ∃ k l : Nat, i = .int .i64 (k : Int) ∧ j = .int .i64 (l : Int) ∧ Hid (k + l = p) ∧ Hid (k ≤ l + 1) ∧ wr.rowIs g 5 cap (revF f (p + 1) k) ∧ Below g W0 wr ∧ Hid (wr.heap.size = W0.heap.size)) (fun i j _ => (intOf j).toNat + 1 - (intOf i).toNat)
      case atStart => exact ⟨0, p, rfl, by first | (simp [wrap64]; done) | (simp [wrap64]; omega), Lib.hid (by omega), Lib.hid (by omega), hrow.congr (fun t ht => by unfold revF; rw [if_neg (by omega)]), Below.refl _ _, Lib.hid rfl⟩
      case round =>
        clear hrow
        obtain ⟨k, l, rfl, rfl, hkl, hk1, hrow, hb, hsz⟩ := hrel
        have HBq := Lib.hid hb
        have HR : Hid (wr.rowIs g 5 cap (revF f (p + 1) k)) := Lib.hid hrow
        clear hb
        by_cases hlt : k < l
        · have t1 : decide ((k : Int) < (l : Int)) = true := by rw [decide_eq_true_eq]; omega
          have ck : wr.cell? ⟨g, k, none⟩ = some (.int .u8 (bv k)) := by
            rw [hrow.cell (i := k) (by have := HC.out; have := hkl.out; omega)]
            unfold revF; rw [if_neg (by have := hkl.out; omega), HV.out k (by have := hkl.out; omega)]
          have cl : wr.cell? ⟨g, l, none⟩ = some (.int .u8 (bv l)) := by
            rw [hrow.cell (i := l) (by have := HC.out; have := hkl.out; omega)]
            unfold revF; rw [if_neg (by have := hkl.out; omega), HV.out l (by have := hkl.out; omega)]
          have fk := hrow.frozen k
          have fl := hrow.frozen l
          have b1 : (k : Int) < (p : Int) + 1 := by have := hkl.out; omega
          have b2 : (l : Int) < (p : Int) + 1 := by have := hkl.out; omega
          have b3 : (0 : Int) ≤ (k : Int) := by omega
          have b4 : (0 : Int) ≤ (l : Int) := by omega
          have HT := Lib.hid hlt
          clear hrow hlt
          go_wp2_with fail
          go_region
          obtain ⟨l', hl'⟩ : ∃ l', l = l' + 1 := ⟨l - 1, by have := HT.out; omega⟩
          subst hl'
          have HF : Hid ((((wr.setCell ⟨g, k, none⟩ (.int .u8 (bv (l' + 1)))).setCell ⟨g, l' + 1, none⟩ (.int .u8 (bv k))).drew).rowIs g 5 cap (revF f (p + 1) (k + 1))) := Lib.hid (((HR.out.set k _).set (l' + 1) _).drew.congr (fun t ht => by
            have e1 := hkl.out
            have e2 := HT.out
            unfold revF
            by_cases c1 : t = l' + 1
            · rw [if_pos c1, if_pos (by omega), c1, show p + 1 - 1 - (l' + 1) = k by omega, HV.out k (by omega)]
            · rw [if_neg c1]
              by_cases c2 : t = k
              · rw [if_pos c2, if_pos (by omega), c2, show p + 1 - 1 - k = l' + 1 by omega, HV.out (l' + 1) (by omega)]
              · rw [if_neg c2]
                by_cases c3 : t < k ∨ (p + 1 - k ≤ t ∧ t < p + 1)
                · rw [if_pos c3, if_pos (by omega)]
                · rw [if_neg c3, if_neg (by omega)]))
          have HB2 : Hid (Below g W0 (((wr.setCell ⟨g, k, none⟩ (.int .u8 (bv (l' + 1)))).setCell ⟨g, l' + 1, none⟩ (.int .u8 (bv k))).drew)) := Lib.hid (by
            have h1 := (HBq.out.setCell (p := ⟨g, k, none⟩) (Nat.le_refl g) (.int .u8 (bv (l' + 1)))).setCell (p := ⟨g, l' + 1, none⟩) (Nat.le_refl g) (.int .u8 (bv k))
            exact ⟨h1.os, h1.tape, h1.output, h1.size, h1.block⟩)
          have HS2 : Hid ((((wr.setCell ⟨g, k, none⟩ (.int .u8 (bv (l' + 1)))).setCell ⟨g, l' + 1, none⟩ (.int .u8 (bv k))).drew).heap.size = W0.heap.size) := Lib.hid (by have := hsz.out; simpa [World.setCell, World.drew] using this)
          generalize (((wr.setCell ⟨g, k, none⟩ (.int .u8 (bv (l' + 1)))).setCell ⟨g, l' + 1, none⟩ (.int .u8 (bv k))).drew) = X at *
          clear ck cl fk fl b1 b2 b3 b4
          have b5 : k ≤ p := by have := hkl.out; omega
          have b6 : l' ≤ p := by have := hkl.out; omega
          go_wp2_with fail
          go_roundw
          case rel => exact ⟨k + 1, l', by simp, by simp, Lib.hid (by have := hkl.out; omega), Lib.hid (by have := HT.out; omega), HF.out, HB2.out, HS2⟩
          case measure => have := HT.out; simp [intOf]; omega
        · have t1 : decide ((k : Int) < (l : Int)) = false := by rw [decide_eq_false_iff_not]; omega
          have HT := Lib.hid hlt
          have hr1 := HR.out.congr (g := fun t => if t < ds.length then f (ds.length - 1 - t) else f t) (fun t ht => by
            have e1 := hkl.out
            have e2 := HT.out
            have e3 := hk1.out
            show revF f (p + 1) k t = if t < ds.length then f (ds.length - 1 - t) else f t
            rw [HLEN.out]
            unfold revF
            by_cases c : t < p + 1
            · rw [if_pos c]
              by_cases c3 : t < k ∨ (p + 1 - k ≤ t ∧ t < p + 1)
              · rw [if_pos c3]
              · rw [if_neg c3, show p + 1 - 1 - t = t by omega]
            · rw [if_neg c, if_neg (by omega)])
          have hcv := rev_cells hr1 (by rw [HLEN.out]; exact HC.out) HF0.out cap
          rw [← HE.out, HLEN.out] at hcv
          have HB2 : Hid (Below w.heap.size w wr) := Lib.hid (HB.out.trans (HBq.out.mono hg))
          clear hrow hlt hr1
          go_wp2_with fail
          go_ret
          exact ⟨rfl, HB2.out⟩
    · have t1 : decide (0 < ln gk) = true := by have := ln_pos hm0; simpa using this
      have HB := Lib.hid hb
      have H0 := Lib.hid hm0
      clear hb hm0
      go_wp2_with fail
      refine (rdigit_any gk 1000000000 c' A' wr hA (by have := hL.out; omega) (by omega) (by omega)).mono ?_
      rintro e w1 ⟨A1, c1, rfl, h1, hb1⟩
      replace hown := own_below hown hb1
      replace HB := Lib.hid (hstep HB hb1)
      have HQ : Hid (ln (gk / 1000000000) ≤ 1099511627776) := Lib.hid (Nat.le_trans (ln_mono (Nat.div_le_self _ _)) hL.out)
      have HR : Hid (gk % 1000000000 < 10 ^ 9) := Lib.hid (Nat.mod_lt _ (by omega))
      have HD : Hid (ds ++ rd (gk / 1000000000 * 10 ^ 9 + gk % 1000000000) = rd n) := Lib.hid (by have := hD.out; rw [show gk / 1000000000 * 10 ^ 9 + gk % 1000000000 = gk by omega]; exact this)
      have HM : Hid (gk / 1000000000 < gk) := Lib.hid (by have := H0.out; omega)
      clear hb1 hD hA t1
      generalize gk % 1000000000 = r at *
      generalize gk / 1000000000 = q at *
      go_wp2_with fail
      go_loopg [3, 5, 6] 9 (fun m v rs kv wr => ∃ (kk r : Nat) (ds : List Nat), kv = .int .i64 (kk : Int) ∧ rs = .int .u32 (r : Int) ∧ Hid (kk + m = 9) ∧ Hid (r < 10 ^ m) ∧ Hid (ds ++ rd (q * 10 ^ m + r) = rd n) ∧ Nat32 wr A1 q ∧ wr.ownsRow w.heap.size 5 1 v ds.length (dcells ds) ∧ Hid (v = .slice none 0 0 ∨ ds ≠ []) ∧ Below w.heap.size w wr)
      case atStart => exact ⟨0, r, ds, rfl, rfl, Lib.hid rfl, HR, HD, h1, hown, hnil, HB.out⟩
      case round =>
        clear hown hnil HB HR HD h1 ds
        obtain ⟨kk, r, ds, rfl, rfl, hk, hr, hD, hq, hown, hnil, hb⟩ := hrel
        have HB := Lib.hid hb
        have HSn := HS.out
        clear hb
        have hc : gk = 0 ∨ (gk ≠ 0 ∧ r ≠ 0) ∨ (gk ≠ 0 ∧ r = 0 ∧ q ≠ 0) ∨ (gk ≠ 0 ∧ r = 0 ∧ q = 0) := by omega
        rcases hc with c | ⟨c, d⟩ | ⟨c, d, e⟩ | ⟨c, d, e⟩
        · have t2 : decide ((kk : Int) < 9) = false := by rw [decide_eq_false_iff_not]; have := hk.out; omega
          have C := Lib.hid c
          clear c
          go_wp2_with fail
          go_roundg q
          case measure => exact HM.out
          case rel => exact ⟨A1, c1, ds, rfl, Lib.hid (by have h1 := hr.out; rw [C.out] at h1; have h2 := hD.out; rw [C.out] at h2; rw [show q * 10 ^ 0 + r = q by simp at h1; omega] at h2; exact h2), HQ, hq, hown, hnil, HB.out⟩
        · have t2 : decide ((kk : Int) < 9) = true := by rw [decide_eq_true_eq]; have := hk.out; omega
          have t4 : decide (0 < r) = true := by rw [decide_eq_true_eq]; omega
          have t5 : decide (0 < (r : Int)) = true := by rw [decide_eq_true_eq]; omega
          have E : Hid (rd (q * 10 ^ gk + r) = r % 10 :: rd (q * 10 ^ (gk - 1) + r / 10)) := Lib.hid (by have := @rd_step q r (gk - 1) (.inr d); rwa [show gk - 1 + 1 = gk by omega] at this)
          have C := Lib.hid c
          have hlen : ds.length + 1 ≤ 10 * ln n := by
            have e := congrArg List.length hD.out
            rw [E.out, List.length_append, List.length_cons] at e
            have := HN.out; omega
          have HD : Hid (ds ++ [r % 10] ++ rd (q * 10 ^ (gk - 1) + r / 10) = rd n) := Lib.hid (by have := hD.out; rw [E.out] at this; rw [← this]; simp)
          have HR2 : Hid (r / 10 < 10 ^ (gk - 1)) := Lib.hid (by have := hr.out; rw [show gk = gk - 1 + 1 by omega, Nat.pow_succ] at this; omega)
          have HK : Hid (kk + gk = 9) := hk
          have hkk : kk < 9 := by have := hk.out; omega
          have hr9 : r < 4294967296 := by
            have h1 := hr.out
            have h2 : 10 ^ gk ≤ 10 ^ 9 := Nat.pow_le_pow_right (by omega) (by have := HK.out; omega)
            have h3 : (10 : Nat) ^ 9 = 1000000000 := by decide
            omega
          clear hD hr hk E
          go_wp2_with (at_builtin; (refine wpList_append_own _ rfl _ _ 169 rfl w.heap.size 5 i0 (.int .u8 0) 1 1 Tryz.und_bytes hi hz0 hz1 hz2 rfl (by decide) _ _ _ rfl (hown.alloc _) ⟨wr.heap.size, 0, none⟩ 1 1 [_] rfl rfl (cell_one_new _ _ _) (by intro u hu; simp at hu; subst hu; rfl) (by unfold maxLen; omega) (by omega) (by have := HB.out.size; simp; omega) ?_; intro v1 w2 hown1 hgrow1 hnil1))
          replace hgrow1 : (wr.alloc (.cells #[.int .u8 (48 + (r : Int) % 10)] 5)).grownBy w2 u3.ownBlock := hgrow1
          have hq2 := nat_grown (hq.alloc (.cells #[.int .u8 (48 + (r : Int) % 10)] 5)) (hown.alloc (.cells #[.int .u8 (48 + (r : Int) % 10)] 5)) hnil.out hgrow1
          have hb2 : Below w.heap.size w w2 := (HB.out.alloc HB.out.size _).grown hgrow1 (by have := HB.out.size; simp; omega) (fun k h => (hown.lt k h).1)
          go_roundg (gk - 1)
          case measure => have := C.out; omega
          case rel => exact ⟨kk + 1, r / 10, ds ++ [r % 10], by simp, by simp, Lib.hid (by have := HK.out; have := C.out; omega), HR2, HD, hq2, by rw [List.length_append, dcells_app]; exact hown1, Lib.hid (.inr (by simp)), hb2⟩
        · have t2 : decide ((kk : Int) < 9) = true := by rw [decide_eq_true_eq]; have := hk.out; omega
          have t3 : decide (0 < ln q) = true := by have := ln_pos e; simpa using this
          have t4 : decide (0 < r) = false := by rw [d]; rfl
          have t5 : decide (0 < (r : Int)) = false := by rw [d]; rfl
          have E : Hid (rd (q * 10 ^ gk + r) = r % 10 :: rd (q * 10 ^ (gk - 1) + r / 10)) := Lib.hid (by have := @rd_step q r (gk - 1) (.inl e); rwa [show gk - 1 + 1 = gk by omega] at this)
          have C := Lib.hid c
          clear d
          have hlen : ds.length + 1 ≤ 10 * ln n := by
            have e := congrArg List.length hD.out
            rw [E.out, List.length_append, List.length_cons] at e
            have := HN.out; omega
          have HD : Hid (ds ++ [r % 10] ++ rd (q * 10 ^ (gk - 1) + r / 10) = rd n) := Lib.hid (by have := hD.out; rw [E.out] at this; rw [← this]; simp)
          have HR2 : Hid (r / 10 < 10 ^ (gk - 1)) := Lib.hid (by have := hr.out; rw [show gk = gk - 1 + 1 by omega, Nat.pow_succ] at this; omega)
          have HK : Hid (kk + gk = 9) := hk
          have hkk : kk < 9 := by have := hk.out; omega
          have hr9 : r < 4294967296 := by
            have h1 := hr.out
            have h2 : 10 ^ gk ≤ 10 ^ 9 := Nat.pow_le_pow_right (by omega) (by have := HK.out; omega)
            have h3 : (10 : Nat) ^ 9 = 1000000000 := by decide
            omega
          clear hD hr hk E
          go_wp2_with (at_builtin; (refine wpList_append_own _ rfl _ _ 169 rfl w.heap.size 5 i0 (.int .u8 0) 1 1 Tryz.und_bytes hi hz0 hz1 hz2 rfl (by decide) _ _ _ rfl (hown.alloc _) ⟨wr.heap.size, 0, none⟩ 1 1 [_] rfl rfl (cell_one_new _ _ _) (by intro u hu; simp at hu; subst hu; rfl) (by unfold maxLen; omega) (by omega) (by have := HB.out.size; simp; omega) ?_; intro v1 w2 hown1 hgrow1 hnil1))
          replace hgrow1 : (wr.alloc (.cells #[.int .u8 (48 + (r : Int) % 10)] 5)).grownBy w2 u3.ownBlock := hgrow1
          have hq2 := nat_grown (hq.alloc (.cells #[.int .u8 (48 + (r : Int) % 10)] 5)) (hown.alloc (.cells #[.int .u8 (48 + (r : Int) % 10)] 5)) hnil.out hgrow1
          have hb2 : Below w.heap.size w w2 := (HB.out.alloc HB.out.size _).grown hgrow1 (by have := HB.out.size; simp; omega) (fun k h => (hown.lt k h).1)
          go_roundg (gk - 1)
          case measure => have := C.out; omega
          case rel => exact ⟨kk + 1, r / 10, ds ++ [r % 10], by simp, by simp, Lib.hid (by have := HK.out; have := C.out; omega), HR2, HD, hq2, by rw [List.length_append, dcells_app]; exact hown1, Lib.hid (.inr (by simp)), hb2⟩
        · have t2 : decide ((kk : Int) < 9) = true := by rw [decide_eq_true_eq]; have := hk.out; omega
          have t3 : decide (0 < ln q) = false := by rw [e, ln_zero]; rfl
          have t4 : decide (0 < r) = false := by rw [d]; rfl
          have t5 : decide (0 < (r : Int)) = false := by rw [d]; rfl
          have D := Lib.hid e
          have E := Lib.hid d
          clear c d e
          go_wp2_with fail
          go_roundg q
          case measure => exact HM.out
          case rel => exact ⟨A1, c1, ds, rfl, Lib.hid (by have h2 := hD.out; rw [D.out, E.out] at h2; rw [D.out]; simpa using h2), HQ, hq, hown, hnil, HB.out⟩
theorem rtext_zero (c : Nat) (A : Option Addr) (w : World) : Calls Tryz.prog 138 #[.slice A 0 c] w (RetStr w (dec 0)) := by
  go_enter Tryz.func138, Tryz.ntmps138
  go_wp2_with fail
  go_ret
  exact ⟨rfl, Below.refl _ _⟩
/-- 'NatText'. -/
theorem rtext_any (n c : Nat) (A : Option Addr) (w : World) (hx : Nat32 w A n) (hbx : ln n ≤ 1099511627776) :
    Calls Tryz.prog 138 #[.slice A (ln n) c] w (RetStr w (dec n)) := by
  by_cases h : n = 0
  · subst h; rw [ln_zero]; exact rtext_zero c A w
  · exact rtext_more n c A w hx hbx h
end Go.Proofs.YtdpjknjlhchmcaaGreat

namespace Go.Proofs.YtdpjknjlhchmcaaGreat
open Go.RowKit Pl
set_option linter.unusedVariables false
set_option linter.unusedSimpArgs false
set_option maxHeartbeats 1000000 in
theorem rshl_pos (x n q r : Nat) (A : Option Addr) (c : Nat) (w : World) (hx : Nat32 w A x) (hbx : ln x ≤ 35184372088832) (hn : n ≤ 1099511627776) (hx0 : x ≠ 0) (hnq : n = 32 * q + r) (hr : r < 32) :
    Calls Tryz.prog 148 #[.slice A (ln x) c, .int .i64 (n : Nat)] w (RetNatC w (x * 2 ^ n)) := by
  have hmk := mk_words (ln x + q + 1) (by omega)
  have ec : ((ln x + q + 1 : Nat) : Int) = (ln x : Int) + (q : Int) + 1 := by omega
  rw [ec] at hmk
  clear ec
  have lx := ln_pos hx0
  have t1 : ((ln x : Int) == 0) = false := by simpa using fun e => by omega
  have hq : (n : Int) / 32 = (q : Int) := by omega
  have hr' : (n : Int) % 32 = (r : Int) := by omega
  obtain ⟨b, rfl, hb, hcx⟩ := hx hx0
  have HX := Lib.hid hcx
  have HN := Lib.hid hnq
  clear hcx hnq
  go_enter Tryz.func148, Tryz.ntmps148
  go_wp2_with fail
  have hrow := (World.rowIs_made w (.int .u32 0) (ln x + q + 1) 127).congr (g := rowN (sp x q r 0)) fun j _ => by rw [sp_zero, rowN_zero]
  have hbel := (Below.refl w.heap.size w).alloc (Nat.le_refl _) (.cells (madeCells #[.int .u32 0] (ln x + q + 1)) 127)
  clear hmk
  have hqb : q ≤ 1099511627776 := by have := HN.out; omega
  go_loopw [6] (fun i wr => ∃ k : Nat, k ≤ ln x ∧ i = .int .i64 k ∧ wr.rowIs w.heap.size 127 (ln x + q + 1) (rowN (sp x q r k)) ∧ Below w.heap.size w wr) (fun i _ => ln x - (intOf i).toNat)
  case atStart => exact ⟨0, Nat.zero_le _, rfl, hrow, hbel⟩
  case round =>
    obtain ⟨i, hi, rfl, hrowi, hbeli⟩ := hrel
    clear hrow hbel
    by_cases hlt : i < ln x
    · have hxi := (hbeli.cell (p := ⟨b, i, none⟩) hb).trans (HX.out i hlt)
      have b1 := wd_lt x i
      have hst := hrowi.cell (i := i + q) (by omega)
      have hfr := hrowi.frozen (i + q)
      have hst1 := hrowi.cell (i := i + q + 1) (by omega)
      have hfr1 := hrowi.frozen (i + q + 1)
      unfold rowN at hst hst1
      have hw : IntKind.u64.wrap ((wd x i : Int) * 2 ^ r) = (shw x i r : Nat) := shw_wrap x i hr
      have hwb := shw_lt x i hr
      have hor := shl_or x q i hr
      go_wp2
      go_roundw
      case rel => exact ⟨i + 1, by omega, by go_num, ((hrowi.set _ _).set _ _).congr fun j _ => shl_row x q i j hr (int_val (by rw [← sp_above x q i hr]; rfl)) rfl, (hbeli.setCell (by simp) _).setCell (by simp) _⟩
      case measure => simp [intOf]; omega
    · obtain rfl : i = ln x := by omega
      have e : sp x q r (ln x) = x * 2 ^ n := by rw [sp, Nat.mod_eq_of_lt (lt_ln x), HN.out]
      have hN : x * 2 ^ n < 4294967296 ^ (ln x + q + 1) := by rw [← e]; exact sp_lt x q (ln x) hr
      rw [e] at hrowi
      clear e
      go_wp2_with fail
      refine (rtrim_any _ w.heap.size (ln x + q + 1) (ln x + q + 1) (x * 2 ^ n) (by omega) (by omega) hN fun j hj => hrowi.cell hj).mono ?_
      rintro e w' ⟨rfl, rfl⟩
      go_wp2
      go_ret
      exact ⟨_, _, rfl, Nat32.ofRow hrowi (ln_le hN) fun j hj => rfl, hbeli⟩
set_option maxHeartbeats 400000 in
/-- 'NatShl'. -/
theorem rshl_any (x n : Nat) (A : Option Addr) (c : Nat) (w : World) (hx : Nat32 w A x) (hbx : ln x ≤ 35184372088832) (hn : n ≤ 1099511627776) :
    Calls Tryz.prog 148 #[.slice A (ln x) c, .int .i64 (n : Nat)] w (RetNatC w (x * 2 ^ n)) := by
  by_cases hx0 : x = 0
  · have h : RetNatC w (x * 2 ^ n) (.returned (.slice none 0 0)) w := ⟨none, 0, by rw [hx0, Nat.zero_mul, ln_zero], by rw [hx0, Nat.zero_mul]; exact Nat32.zero _ _, Below.refl _ _⟩
    have t1 : ((ln x : Int) == 0) = true := by rw [hx0, ln_zero]; rfl
    have H := Lib.hid h
    clear h hx0
    go_enter Tryz.func148, Tryz.ntmps148
    go_wp2
    go_ret
    exact H.out
  · exact rshl_pos x n (n / 32) (n % 32) A c w hx hbx hn hx0 (by omega) (by omega)
theorem retNatC_nil {w w' : World} {n : Nat} (hn : n = 0) (hb : Below w.heap.size w w') : RetNatC w n (.returned (.slice none 0 0)) w' :=
  ⟨none, 0, by rw [hn, ln_zero], by rw [hn]; exact Nat32.zero _ _, hb⟩
set_option maxHeartbeats 1000000 in
theorem rshr_pos (x n q r : Nat) (A : Option Addr) (c : Nat) (w : World) (hx : Nat32 w A x) (hbx : ln x ≤ 35184372088832) (hn : n ≤ 1099511627776) (hnq : n = 32 * q + r) (hr : r < 32) (hql : q < ln x) :
    Calls Tryz.prog 149 #[.slice A (ln x) c, .int .i64 (n : Nat)] w (RetNatC w (x / 2 ^ n)) := by
  have hx0 : x ≠ 0 := fun e => by rw [e, ln_zero] at hql; omega
  have hmk := mk_words (ln x - q) (by omega)
  have ec : ((ln x - q : Nat) : Int) = (ln x : Int) - (q : Int) := by omega
  rw [ec] at hmk
  have hN : x / 2 ^ n < 4294967296 ^ (ln x - q) := shr_lt hnq (by omega)
  have hq : (n : Int) / 32 = (q : Int) := by omega
  have hr' : (n : Int) % 32 = (r : Int) := by omega
  have ht : decide (ln x ≤ q) = false := by simpa using hql
  obtain ⟨b, rfl, hb, hcx⟩ := hx hx0
  have HX := Lib.hid hcx
  have HN := Lib.hid hnq
  have EC := Lib.hid ec
  clear hcx hnq ec
  go_enter Tryz.func149, Tryz.ntmps149
  go_wp2_with fail
  have hrow := (World.rowIs_made w (.int .u32 0) (ln x - q) 127).congr (g := part (x / 2 ^ n) 0) fun j _ => (part_zero _ _).symm
  have hbel := (Below.refl w.heap.size w).alloc (Nat.le_refl _) (.cells (madeCells #[.int .u32 0] (ln x - q)) 127)
  clear hmk
  have hqb : q ≤ 1099511627776 := by have := HN.out; omega
  go_loopw [6] (fun i wr => ∃ k : Nat, k ≤ ln x - q ∧ i = .int .i64 k ∧ wr.rowIs w.heap.size 127 (ln x - q) (part (x / 2 ^ n) k) ∧ Below w.heap.size w wr) (fun i _ => ln x - q - (intOf i).toNat)
  case atStart => exact ⟨0, Nat.zero_le _, rfl, hrow, hbel⟩
  case round =>
    obtain ⟨k, hk, rfl, hrowk, hbelk⟩ := hrel
    clear hrow hbel
    by_cases hlt : k < ln x - q
    · have hxk := (hbelk.cell (p := ⟨b, k + q, none⟩) hb).trans (HX.out (k + q) (by omega))
      have hst := hrowk.cell (i := k) (by omega)
      have hfr := hrowk.frozen k
      have b1 := wd_lt x (k + q)
      by_cases hly : k + q + 1 < ln x
      · have hxk1 := (hbelk.cell (p := ⟨b, k + q + 1, none⟩) hb).trans (HX.out (k + q + 1) (by omega))
        have b2 := wd_lt x (k + q + 1)
        have hor := tw_or x (k + q)
        have b3 := tw_lt x (k + q)
        go_wp2
        go_roundw
        case rel => exact ⟨k + 1, by omega, by go_num, (hrowk.set _ _).congr fun j _ => part_step _ _ _ _ (int_val (shr_val HN.out hr)), hbelk.setCell (by simp) _⟩
        case measure => simp [intOf]; omega
      · have HT := Lib.hid (tw_top (x := x) (i := k + q) (by omega))
        go_wp2
        go_roundw
        case rel => exact ⟨k + 1, by omega, by go_num, (hrowk.set _ _).congr fun j _ => part_step _ _ _ _ (int_val (by rw [← shr_val HN.out hr, HT.out])), hbelk.setCell (by simp) _⟩
        case measure => simp [intOf]; omega
    · have HE := Lib.hid (show k = ln x - q by omega)
      go_wp2_with fail
      refine (rtrim_any _ w.heap.size (ln x - q) (ln x - q) (x / 2 ^ n) (by omega) (by omega) hN fun j hj => by rw [hrowk.cell hj, part_below (by have := HE.out; omega)]).mono ?_
      rintro e w' ⟨rfl, rfl⟩
      go_wp2
      go_ret
      exact ⟨_, _, rfl, Nat32.ofRow hrowk (ln_le hN) fun j hj => part_below (by have := ln_le hN; have := HE.out; omega), hbelk⟩
set_option maxHeartbeats 400000 in
/-- 'NatShr'. -/
theorem rshr_any (x n : Nat) (A : Option Addr) (c : Nat) (w : World) (hx : Nat32 w A x) (hbx : ln x ≤ 35184372088832) (hn : n ≤ 1099511627776) :
    Calls Tryz.prog 149 #[.slice A (ln x) c, .int .i64 (n : Nat)] w (RetNatC w (x / 2 ^ n)) := by
  obtain ⟨q, r, hnq, hr⟩ : ∃ q r, n = 32 * q + r ∧ r < 32 := ⟨n / 32, n % 32, by omega, by omega⟩
  by_cases hql : q < ln x
  · exact rshr_pos x n q r A c w hx hbx hn hnq hr hql
  · have H := Lib.hid (retNatC_nil (w := w) (w' := w) (shr_all (x := x) hnq (by omega)) (Below.refl _ _))
    have hq : (n : Int) / 32 = (q : Int) := by omega
    have hr' : (n : Int) % 32 = (r : Int) := by omega
    have hqb : q ≤ 1099511627776 := by omega
    clear hnq
    go_enter Tryz.func149, Tryz.ntmps149
    go_wp2
    go_ret
    exact H.out
theorem bitLen_half (t : Nat) (ht : t ≠ 0) (hb : t < 4294967296) : Lib.bitLen (t / 2) + 1 = Lib.bitLen t := by
  obtain ⟨h1, h2, h3⟩ := Lib.bitLenAux_bounds 64 t (Nat.lt_trans hb (by decide)) ht
  have e : Lib.bitLenAux 64 t = Lib.bitLen t := rfl
  rw [e] at h1 h2 h3
  by_cases h0 : t / 2 = 0
  · have : t = 1 := by omega
    subst this; rfl
  · obtain ⟨g1, g2, g3⟩ := Lib.bitLenAux_bounds 64 (t / 2) (Nat.lt_trans (show t / 2 < 4294967296 by omega) (by decide)) h0
    have e : Lib.bitLenAux 64 (t / 2) = Lib.bitLen (t / 2) := rfl
    rw [e] at g1 g2 g3
    have a1 : 2 ^ Lib.bitLen (t / 2) ≤ t := by
      have : 2 ^ Lib.bitLen (t / 2) = 2 * 2 ^ (Lib.bitLen (t / 2) - 1) := by rw [← Nat.pow_succ']; congr 1; omega
      omega
    have a2 : t < 2 ^ (Lib.bitLen (t / 2) + 1) := by rw [Nat.pow_succ]; omega
    have b1 : Lib.bitLen (t / 2) < Lib.bitLen t := (Nat.pow_lt_pow_iff_right (a := 2) (by omega)).1 (Nat.lt_of_le_of_lt a1 h3)
    have b2 : Lib.bitLen t - 1 < Lib.bitLen (t / 2) + 1 := (Nat.pow_lt_pow_iff_right (a := 2) (by omega)).1 (Nat.lt_of_le_of_lt h2 a2)
    omega
/-- The number of bits. -/
def nbits (y : Nat) : Nat := if y = 0 then 0 else 32 * (ln y - 1) + Lib.bitLen (wd y (ln y - 1))
set_option maxHeartbeats 400000 in
/-- 'NatBits'. -/
theorem rbits_any (y c : Nat) (A : Option Addr) (w : World) (hy : Nat32 w A y) (hby : ln y ≤ 35184372088832) :
    Calls Tryz.prog 147 #[.slice A (ln y) c] w fun e w' => e = .returned (.int .i64 (nbits y : Nat)) ∧ w = w' := by
  by_cases hy0 : y = 0
  · have t1 : ((ln y : Int) == 0) = true := by rw [hy0, ln_zero]; rfl
    have H := Lib.hid (show nbits y = 0 by rw [hy0]; rfl)
    clear hy0
    go_enter Tryz.func147, Tryz.ntmps147
    go_wp2
    go_ret
    exact ⟨ret_int (by rw [H.out]; rfl), rfl⟩
  · have lx := ln_pos hy0
    have t1 : ((ln y : Int) == 0) = false := by simpa using fun e => by omega
    obtain ⟨b, rfl, hb, hc⟩ := hy hy0
    have hxk := hc (ln y - 1) (by omega)
    have HB := Lib.hid (show nbits y = 32 * (ln y - 1) + Lib.bitLen (wd y (ln y - 1)) by unfold nbits; rw [if_neg hy0])
    have bw := wd_lt y (ln y - 1)
    have HBL := Lib.hid (Lib.bitLen_le _ 32 (by omega) bw)
    clear hc hy0
    go_enter Tryz.func147, Tryz.ntmps147
    go_wp2_with fail
    go_loop [3, 4] (fun n x => ∃ t m : Nat, t < 4294967296 ∧ x = .int .u32 t ∧ n = .int .i64 m ∧ m + Lib.bitLen t = Lib.bitLen (wd y (ln y - 1))) (fun _ x => (intOf x).toNat)
    case atStart => exact ⟨_, 0, bw, rfl, rfl, Nat.zero_add _⟩
    case round =>
      obtain ⟨t, m, ht, rfl, rfl, hm⟩ := hrel
      have HM := Lib.hid hm
      have hmb : m ≤ 32 := by have := HBL.out; omega
      clear hm
      by_cases h0 : 0 < t
      · have HH := Lib.hid (bitLen_half t (by omega) ht)
        go_wp2_with fail
        go_round
        case rel => exact ⟨t / 2, m + 1, by omega, int_val (by omega), by go_num, by have := HH.out; have := HM.out; omega⟩
        case measure => simp [intOf]; omega
      · obtain rfl : t = 0 := by omega
        have hz : Lib.bitLen 0 = 0 := rfl
        have HZ := Lib.hid hz
        clear hz
        go_wp2_with fail
        go_ret
        exact ⟨ret_int (by rw [HB.out]; have := HM.out; rw [HZ.out] at this; omega), rfl⟩
theorem nbits_lz {y : Nat} (hy : y ≠ 0) : nbits y + lz y = 32 * ln y := by
  have h := (lz_bounds (wd_last hy) (wd_lt _ _)).1
  have := ln_pos hy
  unfold nbits lz; rw [if_neg hy]; omega
end Go.Proofs.YtdpjknjlhchmcaaGreat

namespace Go.Proofs.YtdpjknjlhchmcaaGreat
open Go.RowKit Pl
set_option linter.unusedVariables false
set_option linter.unusedSimpArgs false
/-- A call of the reference hands back two numbers in words. -/
def RetNat2C (w : World) (q r : Nat) (e : Ending) (w' : World) : Prop := ∃ A c B d, e = .returned (.tuple #[.slice A (ln q) c, .slice B (ln r) d]) ∧ Nat32 w' A q ∧ Nat32 w' B r ∧ Below w.heap.size w w'
theorem qp_and {q V X k : Nat} (h : X = q * V) (hq : q < 4294967296) : bits .and .u64 ((q : Int) * (wd V k : Int) + (qc q V k : Int)) 4294967295 = (wd X k : Nat) := by
  have e : ((qp q V k : Nat) : Int) = (q : Int) * (wd V k : Int) + (qc q V k : Int) := by unfold qp; rw [Int.natCast_add, Int.natCast_mul]
  have h1 := qc_lt (V := V) (k := k) hq
  have h2 := wd_lt V k
  have h3 : q * wd V k ≤ 4294967295 * 4294967295 := Nat.mul_le_mul (by omega) (by omega)
  have h4 := qp_mod q V k
  have h5 : qp q V k < 18446744073709551616 := by unfold qp; omega
  rw [← e, Go.Proofs.Mul64.maskN (qp q V k) h5, h4, h]
theorem wrap_nat (a : Int) : ∃ S : Nat, IntKind.u64.wrap a = (S : Nat) ∧ S < 18446744073709551616 := by
  refine ⟨(IntKind.u64.wrap a).toNat, ?_, ?_⟩ <;> rw [IntKind.wrap_u64] <;> omega
set_option maxRecDepth 100000 in
set_option maxHeartbeats 4000000 in
theorem rdiv_main (x y : Nat) (A B : Option Addr) (c d : Nat) (w : World) (hx : Nat32 w A x) (hy : Nat32 w B y) (hbx : ln x ≤ 1099511627776) (hby : ln y ≤ 1099511627776) (hle : y ≤ x) (hl2 : 2 ≤ ln y) :
    Calls Tryz.prog 129 #[.slice A (ln x) c, .slice B (ln y) d] w (RetNat2C w (x / y) (x % y)) := by
  have hll := ln_mono hle
  have hy0 : y ≠ 0 := fun e => by rw [e, ln_zero] at hl2; omega
  have hcmp : decide (cmpN x y < 0) = false := by
    unfold cmpN; rw [if_neg (by omega)]; split <;> rfl
  have t1 : ((ln y : Int) == 1) = false := by simpa using fun e => by omega
  have hmk := mk_words (ln x + 1) (by omega)
  have ec : ((ln x + 1 : Nat) : Int) = (ln x : Int) + 1 := by omega
  rw [ec] at hmk
  have hmk2 := mk_words (ln x + 1 - ln y) (by omega)
  have ec2 : ((ln x + 1 - ln y : Nat) : Int) = (ln x : Int) + 1 - (ln y : Int) := by omega
  rw [ec2] at hmk2
  clear ec ec2
  have hlz := lz_le y hy0
  have HN := Lib.hid (norm_y hy0)
  have HT := Lib.hid (ur_top hy0 hll)
  have hdm : x / y = (x * 2 ^ lz y) / (y * 2 ^ lz y) ∧ x % y = (x * 2 ^ lz y) % (y * 2 ^ lz y) / 2 ^ lz y := by
    have hp : 0 < 2 ^ lz y := Nat.pow_pos (by omega)
    exact ⟨(Nat.mul_div_mul_right _ _ hp).symm, by rw [Nat.mul_mod_mul_right, Nat.mul_div_cancel _ hp]⟩
  obtain ⟨V, hVe⟩ : ∃ V, V = y * 2 ^ lz y := ⟨_, rfl⟩
  obtain ⟨U, hUe⟩ : ∃ U, U = x * 2 ^ lz y := ⟨_, rfl⟩
  rw [← hVe] at HN HT hdm
  rw [← hUe] at HT hdm
  have HV := Lib.hid hVe
  have HU := Lib.hid hUe
  have HD := Lib.hid hdm
  clear hVe hUe hdm
  have HL : Hid (ln V = ln y) := by
    have h := HN.out
    show ln V = ln y
    have h1 := ln_le h.1
    have h2 : ln y - 1 < ln V := ln_gt (Nat.le_trans (by have := pow_pos' (ln y - 1); omega) h.2)
    omega
  have HUL : Hid (ln U ≤ ln x + 1) := by
    show ln U ≤ ln x + 1
    apply ln_le
    rw [HU.out, Nat.pow_succ]
    have h1 := lt_ln x
    have h2 : 2 ^ lz y ≤ 4294967296 := Nat.pow_le_pow_right (n := 2) (by omega) (show lz y ≤ 32 by omega)
    exact Nat.lt_of_lt_of_le (Nat.mul_lt_mul_of_pos_right h1 (Nat.pow_pos (by omega))) (Nat.mul_le_mul_left _ h2)
  go_enter Tryz.func129, Tryz.ntmps129
  go_wp2_with fail
  refine (rcmp_any x y A B c d w hx hy (by omega)).mono ?_
  rintro e w1 ⟨rfl, hb1⟩
  have hx1 := hx.to hb1
  have hy1 := hy.to hb1
  have HC := Lib.hid hb1
  clear hx hy hb1
  have hnb : 32 * (ln y : Int) - (nbits y : Int) = (lz y : Nat) := by have := nbits_lz hy0; omega
  have hnb2 : nbits y ≤ 35184372088832 := by have := nbits_lz hy0; omega
  go_wp2_with fail
  refine (rbits_any y d B w1 hy1 (by omega)).mono ?_
  rintro e w' ⟨rfl, rfl⟩
  go_wp2_with fail
  have hs1 := rshl_any y (lz y) _ d w1 hy1 (by omega) (by omega)
  rw [← HV.out] at hs1
  refine hs1.mono ?_
  clear hs1
  rintro e w2 ⟨AV, cV, rfl, hV, hb2⟩
  rw [HL.out]
  have hx2 := (hx1.to hb2).alloc (.cells (madeCells #[.int .u32 0] (ln x + 1)) 127)
  have hV2 := hV.alloc (.cells (madeCells #[.int .u32 0] (ln x + 1)) 127)
  have hru := (World.rowIs_made w2 (.int .u32 0) (ln x + 1) 127).congr (g := rowN 0) fun j _ => (rowN_zero j).symm
  go_wp2_with fail
  have hs2 := rshl_any x (lz y) _ c _ hx2 (by omega) (by omega)
  rw [← HU.out] at hs2
  refine hs2.mono ?_
  clear hs2
  rintro e w3 ⟨AU, cU, rfl, hU, hb3⟩
  have hV3 := hV2.to hb3
  have hru3 := hru.of_block (hb3.block _ (by simp))
  go_wp2_with (with_reducible refine wpList_copy_words rfl (.tmp 58) (.tmp 61) _ _ rfl 127 Tryz.und_words Tryz.size_u32 _ _ _ _ _ rfl rfl hru3 hU ?_ ?_)
  · exact HUL.out
  intro w4 hru4 hg4
  have hV4 : Nat32 w4 AV V := fun hv0 => by
    obtain ⟨b2, e2, hlt2, hc2⟩ := hV hv0
    refine ⟨b2, e2, ?_, fun j hj => ?_⟩
    · have := hb3.size; have := hg4.size; simp at *; omega
    · have hb3s := hb3.size
      simp at hb3s
      refine (grown_cell hg4 (by omega) (by omega)).trans ((hb3.cell (p := ⟨b2, j, none⟩) (by simp; omega)).trans ?_)
      exact (World.cell?_alloc_lt _ _ _ hlt2).trans (hc2 j hj)
  have hBV : ∀ b2, AV = some ⟨b2, 0, none⟩ → b2 < w2.heap.size := fun b2 e2 => by
    have hv0 : V ≠ 0 := fun e => by have := HL.out; rw [e, ln_zero] at this; omega
    obtain ⟨b3, e3, hlt3, _⟩ := hV hv0
    rw [e2] at e3; injection e3 with e3; injection e3 with e3; omega
  have hbel4 : Below w.heap.size w w4 := by
    have h2 := HC.out.trans (hb2.mono HC.out.size)
    have h3 := (h2.alloc (by have := h2.size; exact this) (.cells (madeCells #[.int .u32 0] (ln x + 1)) 127)).trans (hb3.mono (by have := h2.size; simp; omega))
    exact h3.grown hg4 (by have := h3.size; exact this) (fun k e => by injection e with e; have := h2.size; omega)
  obtain ⟨gU, hgU⟩ : ∃ gU, gU = w2.heap.size := ⟨_, rfl⟩
  have hgUw : w.heap.size ≤ gU := by have h2 := HC.out.trans (hb2.mono HC.out.size); have := h2.size; omega
  rw [← hgU] at hru4 hBV ⊢
  have HBV := Lib.hid hBV
  clear hBV hg4 hb3 hru3 hV3 hU hV hV2 hru hx2 hb2 hgU hx1 hy1
  obtain ⟨L, hL⟩ : ∃ L, L = ln x + 1 - ln y := ⟨_, rfl⟩
  have hmk3 := fun wz => hmk2 wz
  rw [← hL] at hmk3
  have HLe := Lib.hid hL
  have hL1 : 1 ≤ L := by omega
  have hLn : L ≤ 1099511627777 := by omega
  clear hL hmk2 hmk
  go_wp2_with fail
  have hrq := (World.rowIs_made w4 (.int .u32 0) L 127).congr (g := above (U / V) L) fun j hj => (above_all _ hj).symm
  have hru5 := (hru4.alloc (.cells (madeCells #[.int .u32 0] L) 127)).congr (g := rowN (ur U V L)) fun j _ => by rw [ur_all (by rw [HLe.out]; exact HT.out)]
  have hV5 := hV4.alloc (.cells (madeCells #[.int .u32 0] L) 127)
  have hbel5 := hbel4.alloc (by have := hbel4.size; exact this) (.cells (madeCells #[.int .u32 0] L) 127)
  obtain ⟨gQ, hgQ⟩ : ∃ gQ, gQ = w4.heap.size := ⟨_, rfl⟩
  have hgUQ : gU < gQ := by rw [hgQ]; exact hru4.lt
  rw [← hgQ] at hrq ⊢
  clear hgQ hru4 hV4 hbel4 hmk3
  go_loopw [13] (fun i wr => ∃ (k : Nat) (iv : Int), k ≤ L ∧ iv = (k : Int) - 1 ∧ i = .int .i64 iv ∧ wr.rowIs gU 127 (ln x + 1) (rowN (ur U V k)) ∧ wr.rowIs gQ 127 L (above (U / V) k) ∧ Nat32 wr AV V ∧ Below w.heap.size w wr) (fun i _ => (intOf i + 1).toNat)
  case atStart => exact ⟨L, _, Nat.le_refl _, rfl, rfl, hru5, hrq, hV5, hbel5⟩
  case round =>
    obtain ⟨k, iv, hk, hiv, rfl, hru, hrq', hVr, hbel⟩ := hrel
    clear hru5 hrq hV5 hbel5
    by_cases hk0 : 0 < k
    · obtain ⟨j, rfl⟩ : ∃ j, k = j + 1 := ⟨k - 1, by omega⟩
      obtain rfl : iv = (j : Int) := by omega
      clear hiv
      have hV0 : V ≠ 0 := fun e => by have := HL.out; rw [e, ln_zero] at this; omega
      have HS := Lib.hid (ur_step (u := U) (V := V) (j := j) (by omega))
      obtain ⟨Z, hZ⟩ : ∃ Z, Z = ur U V (j + 1) := ⟨_, rfl⟩
      rw [← hZ] at hru HS
      have HZ := Lib.hid hZ
      clear hZ
      obtain ⟨b2, rfl, hlt2, hcv⟩ := hVr hV0
      have hb2g := HBV.out b2 rfl
      have hjm : j + ln y < ln x + 1 := by have := HLe.out; omega
      have c0 := hru.cell (i := j + ln y) (by omega)
      have c1 := hru.cell (i := j + ln y - 1) (by omega)
      have c2 := hru.cell (i := j + ln y - 2) (by omega)
      have d1 := hcv (ln y - 1) (by have := HL.out; omega)
      have d2 := hcv (ln y - 2) (by have := HL.out; omega)
      unfold rowN at c0 c1 c2
      obtain ⟨z0, hz0⟩ : ∃ z, z = wd Z (j + ln y) := ⟨_, rfl⟩
      obtain ⟨z1, hz1⟩ : ∃ z, z = wd Z (j + ln y - 1) := ⟨_, rfl⟩
      obtain ⟨z2, hz2⟩ : ∃ z, z = wd Z (j + ln y - 2) := ⟨_, rfl⟩
      obtain ⟨vt, hvt⟩ : ∃ z, z = wd V (ln y - 1) := ⟨_, rfl⟩
      obtain ⟨vs, hvs⟩ : ∃ z, z = wd V (ln y - 2) := ⟨_, rfl⟩
      rw [← hz0] at c0
      rw [← hz1] at c1
      rw [← hz2] at c2
      rw [← hvt] at d1
      rw [← hvs] at d2
      have bz0 : z0 < 4294967296 := by rw [hz0]; exact wd_lt _ _
      have bz1 : z1 < 4294967296 := by rw [hz1]; exact wd_lt _ _
      have bz2 : z2 < 4294967296 := by rw [hz2]; exact wd_lt _ _
      have bvt : vt < 4294967296 := by rw [hvt]; exact wd_lt _ _
      have bvs : vs < 4294967296 := by rw [hvs]; exact wd_lt _ _
      have bvt2 : 2147483648 ≤ vt := by
        rw [hvt, ← HL.out, top_word hV0, HL.out]
        exact (Nat.le_div_iff_mul_le (pow_pos' _)).2 HN.out.2
      have H0 := Lib.hid hz0
      have H1 := Lib.hid hz1
      have H2 := Lib.hid hz2
      have HT1 := Lib.hid hvt
      have HS1 := Lib.hid hvs
      clear hz0 hz1 hz2 hvt hvs hcv
      obtain ⟨top, htop⟩ : ∃ t, t = z0 * 4294967296 + z1 := ⟨_, rfl⟩
      have hor := hl_or bz0 bz1
      rw [← htop] at hor
      have btop : top < 18446744073709551616 := by omega
      obtain ⟨g0, hg0⟩ : ∃ t, t = top / vt := ⟨_, rfl⟩
      obtain ⟨r0, hr0⟩ : ∃ t, t = top % vt := ⟨_, rfl⟩
      have bg0 : g0 < 8589934592 := by rw [hg0]; exact (Nat.div_lt_iff_lt_mul (by omega)).2 (by omega)
      have br0 : r0 < vt := by rw [hr0]; exact Nat.mod_lt _ (by omega)
      have e1 : IntKind.u64.wrap ((top : Int) / (vt : Int)) = (g0 : Nat) := by
        rw [← Int.natCast_ediv, ← hg0, IntKind.wrap_u64]; omega
      have e2 : (top : Int) % (vt : Int) = (r0 : Nat) := by rw [← Int.natCast_emod, ← hr0]
      have HTO := Lib.hid htop
      have HG := Lib.hid hg0
      have HR := Lib.hid hr0
      clear htop hg0 hr0
      go_wp2_with fail
      go_quiet (fail)
      obtain ⟨W, hW⟩ : ∃ t, t = Z / 4294967296 ^ j := ⟨_, rfl⟩
      obtain ⟨q, hq⟩ : ∃ t, t = W / V := ⟨_, rfl⟩
      have HVd := Lib.hid (show V = (vt * 4294967296 + vs) * 4294967296 ^ (ln y - 2) + V % 4294967296 ^ (ln y - 2) by
        rw [HT1.out, HS1.out]
        have h := two_top (N := V) (k := ln y - 2) (by rw [show ln y - 2 + 2 = ln y by omega]; exact HN.out.1)
        rw [show ln y - 2 + 1 = ln y - 1 by omega] at h
        exact h)
      have HWV := Lib.hid (show W < V * 4294967296 by rw [hW]; exact HS.out.2.1)
      have HWd := Lib.hid (show W = (top * 4294967296 + z2) * 4294967296 ^ (ln y - 2) + W % 4294967296 ^ (ln y - 2) by
        have hWn : W < 4294967296 ^ (ln y - 2 + 3) := by
          rw [show ln y - 2 + 3 = ln y + 1 by omega, Nat.pow_succ]
          exact Nat.lt_trans HWV.out (Nat.mul_lt_mul_of_pos_right HN.out.1 (by omega))
        have h := three_top hWn
        rw [hW, wd_div, wd_div, wd_div, ← hW, show j + (ln y - 2 + 2) = j + ln y by omega, show j + (ln y - 2 + 1) = j + ln y - 1 by omega, show j + (ln y - 2) = j + ln y - 2 by omega, ← H0.out, ← H1.out, ← H2.out, ← HTO.out] at h
        exact h)
      have HQ := Lib.hid hq
      have HW := Lib.hid hW
      have hqV : q * V ≤ W := by rw [hq]; exact Nat.div_mul_le_self _ _
      have HQV := Lib.hid hqV
      clear hW hq hqV
      have HP := Lib.hid (Nat.mod_lt V (pow_pos' (ln y - 2)))
      have HP2 := Lib.hid (Nat.mod_lt W (pow_pos' (ln y - 2)))
      go_upto_block 2 with fail
      go_cut [15] from 110 to 145 (fun g wx => ∃ gv : Nat, g = .int .u64 gv ∧ gv < 4294967296 ∧ (gv = q ∨ gv = q + 1) ∧ ∃ n, wx = wr.drewN n)
      case first =>
        go_wp2_with fail
        go_loopw [15, 16] (fun g r wx => ∃ gv rv : Nat, g = .int .u64 gv ∧ r = .int .u64 rv ∧ gv * vt + rv = top ∧ q ≤ gv ∧ rv < 4294967296 ∧ gv < 8589934592 ∧ ∃ n, wx = wr.drewN n) (fun g _ _ => (intOf g).toNat)
        case atStart => exact ⟨g0, r0, rfl, int_val e2, by rw [HG.out, HR.out, Nat.mul_comm]; exact Nat.div_add_mod _ _, by rw [HG.out]; exact kd_ge HVd.out HWd.out HP2.out bz2 (by omega) HQV.out, by omega, bg0, _, rfl⟩
        case round =>
          clear btop hor e1 e2 c0 c1
          obtain ⟨gv, rv, rfl, rfl, hgr, hqg, hrv, hgv, n', rfl⟩ := hrel
          have HGR := Lib.hid hgr
          clear hgr
          by_cases hbig : 4294967296 ≤ gv
          · have hd : decide ((4294967296 : Int) ≤ (gv : Int)) = true := by
              rw [decide_eq_true_eq]; omega
            have hqlt : q < gv := kd_dec HVd.out HWd.out HP2.out HWV.out HGR.out (.inl hbig) HQV.out hqg
            go_wp2_with fail
            go_quiet (fail)
            have hg1 : (gv : Int) - 1 = ((gv - 1 : Nat) : Int) := by omega
            have HOUT := Lib.hid (fun hr : 4294967296 ≤ rv + vt => kd_out HVd.out HP.out bvs HWd.out HWV.out (show (gv - 1) * vt + (rv + vt) = top by rw [← HGR.out, Nat.sub_mul, Nat.one_mul]; have := Nat.le_mul_of_pos_left vt (show 0 < gv by omega); omega) hr)
            have HGR2 := Lib.hid (show (gv - 1) * vt + (rv + vt) = top by rw [← HGR.out, Nat.sub_mul, Nat.one_mul]; have := Nat.le_mul_of_pos_left vt (show 0 < gv by omega); omega)
            by_cases hr : 4294967296 ≤ rv + vt
            · have hr2 : decide ((4294967296 : Int) ≤ (rv : Int) + (vt : Int)) = true := by
                rw [decide_eq_true_eq]; omega
              go_wp2_with fail
              go_meet
              exact ⟨gv - 1, by rw [← hg1], (HOUT.out hr).1, .inl (by
                have h1 := (Nat.le_div_iff_mul_le (by omega)).2 (HOUT.out hr).2
                rw [← HQ.out] at h1; omega), _, rfl⟩
            · have hr2 : decide ((4294967296 : Int) ≤ (rv : Int) + (vt : Int)) = false := by
                rw [decide_eq_false_iff_not]; omega
              go_wp2_with fail
              go_roundw
              case rel => exact ⟨gv - 1, rv + vt, by rw [← hg1], by go_num, HGR2.out, by omega, by omega, by omega, _, rfl⟩
              case measure => simp [intOf]; omega
          · have hd : decide ((4294967296 : Int) ≤ (gv : Int)) = false := by
              rw [decide_eq_false_iff_not]; omega
            obtain ⟨ru, hru0⟩ : ∃ t, t = rv * 4294967296 + z2 := ⟨_, rfl⟩
            have hor := hl_or hrv bz2
            rw [← hru0] at hor
            have HRU := Lib.hid hru0
            have hp1 := prod_le (show gv < 4294967296 by omega) bvs
            have hp0 : 0 ≤ (gv : Int) * (vs : Int) := Int.mul_nonneg (by omega) (by omega)
            have hp2 : ((gv * vs : Nat) : Int) = (gv : Int) * (vs : Int) := Int.natCast_mul _ _
            by_cases hlt : ru < gv * vs
            · have hd2 : decide ((ru : Int) < (gv : Int) * (vs : Int)) = true := by
                rw [decide_eq_true_eq]; omega
              have hqlt : q < gv := kd_dec HVd.out HWd.out HP2.out HWV.out HGR.out (.inr (by rw [← hru0]; exact hlt)) HQV.out hqg
              clear hru0 hp2
              go_wp2_with fail
              go_quiet (fail)
              have hg1 : (gv : Int) - 1 = ((gv - 1 : Nat) : Int) := by omega
              have HOUT := Lib.hid (fun hr : 4294967296 ≤ rv + vt => kd_out HVd.out HP.out bvs HWd.out HWV.out (show (gv - 1) * vt + (rv + vt) = top by rw [← HGR.out, Nat.sub_mul, Nat.one_mul]; have := Nat.le_mul_of_pos_left vt (show 0 < gv by omega); omega) hr)
              have HGR2 := Lib.hid (show (gv - 1) * vt + (rv + vt) = top by rw [← HGR.out, Nat.sub_mul, Nat.one_mul]; have := Nat.le_mul_of_pos_left vt (show 0 < gv by omega); omega)
              by_cases hr : 4294967296 ≤ rv + vt
              · have hr2 : decide ((4294967296 : Int) ≤ (rv : Int) + (vt : Int)) = true := by
                  rw [decide_eq_true_eq]; omega
                go_wp2_with fail
                go_meet
                exact ⟨gv - 1, by rw [← hg1], (HOUT.out hr).1, .inl (by
                  have h1 := (Nat.le_div_iff_mul_le (by omega)).2 (HOUT.out hr).2
                  rw [← HQ.out] at h1; omega), _, rfl⟩
              · have hr2 : decide ((4294967296 : Int) ≤ (rv : Int) + (vt : Int)) = false := by
                  rw [decide_eq_false_iff_not]; omega
                go_wp2_with fail
                go_roundw
                case rel => exact ⟨gv - 1, rv + vt, by rw [← hg1], by go_num, HGR2.out, by omega, by omega, by omega, _, rfl⟩
                case measure => simp [intOf]; omega
            · have hd2 : decide ((ru : Int) < (gv : Int) * (vs : Int)) = false := by
                rw [decide_eq_false_iff_not]; omega
              have HF := Lib.hid (kd_fit HVd.out HP.out (by omega) HWd.out HGR.out (by omega) (by rw [← hru0]; omega))
              clear hru0 hp2
              go_wp2_with fail
              go_quiet (fail)
              go_wp2_with fail
              go_meet
              exact ⟨gv, rfl, by omega, kd_word hqg (by
                have h1 := Nat.lt_mul_div_succ W (show 0 < V by omega)
                rw [← HQ.out, Nat.mul_comm] at h1; exact h1) HF.out, _, World.drewN_drewN _ _ _⟩
      case rest =>
        clear btop hor e1 e2 c0 c1 c2 d1 d2
        obtain ⟨gv, rfl, hgv, hgq, n', rfl⟩ := hcut
        have hZU : Z < 4294967296 ^ (j + ln y + 1) := by
          have h1 : Z / 4294967296 ^ j < 4294967296 ^ (ln y + 1) := by
            rw [← HW.out, Nat.pow_succ]; exact Nat.lt_trans HWV.out (Nat.mul_lt_mul_of_pos_right HN.out.1 (by omega))
          rw [Nat.div_lt_iff_lt_mul (pow_pos' j), ← Nat.pow_add, show ln y + 1 + j = j + ln y + 1 by omega] at h1
          exact h1
        have HZU := Lib.hid hZU
        clear hZU
        have HWl := Lib.hid (show W < 4294967296 ^ (ln y + 1) by
          rw [Nat.pow_succ]; exact Nat.lt_trans HWV.out (Nat.mul_lt_mul_of_pos_right HN.out.1 (by omega)))
        have hXn : gv * V < 4294967296 ^ (ln y + 1) := by
          rw [Nat.pow_succ]
          have h1 : gv * V ≤ 4294967296 * V := Nat.mul_le_mul_right _ (by omega)
          have h2 := HN.out.1
          omega
        obtain ⟨X, hX⟩ : ∃ t, t = gv * V := ⟨_, rfl⟩
        rw [← hX] at hXn
        have HX := Lib.hid hX
        have HXN := Lib.hid hXn
        have HWD := Lib.hid (show ∀ k, wd W k = wd Z (k + j) from fun k => by rw [HW.out, wd_div, Nat.add_comm])
        have HGQ := Lib.hid hgq
        clear hX hXn hgq
        have hruA := (hru.of_block (w' := wr.drewN n') (by rfl)).congr (g := seg Z (tk W X (ln y)) j 0) fun i _ => seg_zero _ _ _ _
        have hrqA := hrq'.of_block (w' := wr.drewN n') (by rfl)
        have hVA := hVr.drewN n'
        have hbA := below_drewN hbel n'
        clear hru hrq' hVr hbel hlt2
        go_wp2_with fail
        go_loopw [17, 18, 19] (fun c2 c1 i wx => ∃ k : Nat, k ≤ ln y ∧ i = .int .i64 k ∧ c1 = .int .u64 (qc gv V k : Nat) ∧ c2 = .int .u64 (sb W X k : Nat) ∧ wx.rowIs gU 127 (ln x + 1) (seg Z (tk W X (ln y)) j k) ∧ wx.rowIs gQ 127 L (above (U / V) (j + 1)) ∧ Nat32 wx (some ⟨b2, 0, none⟩) V ∧ Below w.heap.size w wx) (fun _ _ i _ => ln y - (intOf i).toNat)
        case atStart => exact ⟨0, Nat.zero_le _, rfl, by rw [qc_zero]; rfl, by rw [sb_zero]; rfl, hruA, hrqA, hVA, hbA⟩
        case round =>
        obtain ⟨k, hk, rfl, rfl, rfl, hruk, hrqk, hVk, hbk⟩ := hrel
        clear hruA hrqA hVA hbA
        have c1 := qc_lt (V := V) (k := k) hgv
        have c2 := sb_le W X k
        by_cases hlt : k < ln y
        · obtain ⟨b3, e3, hlt3, hc3⟩ := hVk hV0
          injection e3 with e3; injection e3 with e3
          subst e3
          have hvk := hc3 k (by have := HL.out; omega)
          have hst := hruk.cell (i := k + j) (by omega)
          rw [seg_at] at hst
          have hfr := hruk.frozen (k + j)
          have bb1 := wd_lt V k
          have bb2 := wd_lt Z (k + j)
          have bb3 := prod_le hgv bb1
          have bb4 : 0 ≤ (gv : Int) * (wd V k : Int) := Int.mul_nonneg (by omega) (by omega)
          clear hc3
          have hX2 : X ≤ W + 4294967296 ^ (ln y + 1) := by have := HXN.out; omega
          have hand := qp_and (k := k) HX.out hgv
          have H2' := Lib.hid (qp_hi gv V k)
          have H3 := Lib.hid (t64 (wd_lt W k) (wd_lt X k) (sb_le W X k))
          rw [HWD.out k] at H3
          have H4 := Lib.hid (tk_word (k := k) (by omega) hX2)
          have H5 := Lib.hid (sb_step W X k)
          rw [HWD.out k] at H4 H5
          clear hX2
          go_wp2_with fail
          go_roundw
          case rel => exact ⟨k + 1, by omega, by go_num, int_val (by rw [H2'.out]), int_val (by rw [H3.out.2, H5.out]), (hruk.set _ _).congr fun i _ => seg_step (int_val (by rw [H3.out.1, H4.out])), hrqk.setOther (by show gQ ≠ gU; omega) _, hVk.setOther (by show gU ≠ b2; omega) _, hbk.setCell (by show w.heap.size ≤ gU; omega) _⟩
          case measure => simp [intOf]; omega
        obtain rfl : k = ln y := by omega
        have hst := hruk.cell (i := ln y + j) (by omega)
        rw [seg_at, Nat.add_comm (ln y) j] at hst
        have hfr := hruk.frozen (j + ln y)
        have bz := wd_lt Z (j + ln y)
        have hX2 : X ≤ W + 4294967296 ^ (ln y + 1) := by have := HXN.out; omega
        have H0' := Lib.hid (show qc gv V (ln y) = wd X (ln y) by rw [qc_end HN.out.1, ← HX.out, lin_top HXN.out])
        have H3 := Lib.hid (t64 (wd_lt W (ln y)) (wd_lt X (ln y)) (sb_le W X (ln y)))
        rw [HWD.out (ln y), Nat.add_comm (ln y) j, ← H0'.out] at H3
        have H4 := Lib.hid (tk_word (k := ln y) (by omega) hX2)
        have H5 := Lib.hid (sb_step W X (ln y))
        rw [HWD.out (ln y), Nat.add_comm (ln y) j, ← H0'.out] at H4 H5
        have H6 := Lib.hid (sb_last HWl.out HXN.out)
        clear hX2
        obtain ⟨S, hS, bS⟩ := wrap_nat (IntKind.u64.wrap ((wd Z (j + ln y) : Int) - (qc gv V (ln y) : Int)) - (sb W X (ln y) : Int))
        rw [hS] at H3
        have HS1' := Lib.hid (show (S : Int) % 4294967296 = (wd (tk W X (ln y)) (ln y) : Nat) by rw [H3.out.1, H4.out])
        have HS2' : (S : Int) / 9223372036854775808 = ((if W < X then 1 else 0 : Nat) : Int) := by rw [H3.out.2, H5.out, H6.out]
        have hru6 : (wr.setCell ⟨gU, j + ln y, none⟩ (.int .u32 ((S : Int) % 4294967296))).rowIs gU 127 (ln x + 1) (seg Z (tk W X (ln y)) j (ln y + 1)) :=
          (hruk.set (j + ln y) (.int .u32 ((S : Int) % 4294967296))).congr fun i _ => by
            rw [Nat.add_comm j (ln y)]; exact seg_step (int_val HS1'.out)
        have hrq6 : (wr.setCell ⟨gU, j + ln y, none⟩ (.int .u32 ((S : Int) % 4294967296))).rowIs gQ 127 L (above (U / V) (j + 1)) := hrqk.setOther (by show gQ ≠ gU; omega) _
        have hV6 : Nat32 (wr.setCell ⟨gU, j + ln y, none⟩ (.int .u32 ((S : Int) % 4294967296))) (some ⟨b2, 0, none⟩) V := hVk.setOther (by show gU ≠ b2; omega) _
        have hb6 : Below w.heap.size w (wr.setCell ⟨gU, j + ln y, none⟩ (.int .u32 ((S : Int) % 4294967296))) := hbk.setCell (by show w.heap.size ≤ gU; omega) _
        have HRl := Lib.hid (show ur U V j / 4294967296 ^ j = W - q * V by
          rw [HS.out.2.2.1, ← HW.out, HQ.out]
          have h1 := Nat.div_add_mod W V
          rw [Nat.mul_comm] at h1; omega)
        have HQJ := Lib.hid (show q = wd (U / V) j by rw [HQ.out, HW.out]; exact HS.out.1)
        have hgq := HGQ.out
        have hst2 := hrqk.cell (i := j) (by omega)
        have hfr2 := hrqk.frozen j
        clear H3 H4 H5
        rcases hgq with rfl | rfl
        · have hnt : ((S : Int) / 9223372036854775808 == 1) = false := by
            rw [HS2', if_neg (by rw [HX.out]; have := HQV.out; omega)]; rfl
          have hru7 := Lib.hid (show (wr.setCell ⟨gU, j + ln y, none⟩ (.int .u32 ((S : Int) % 4294967296))).rowIs gU 127 (ln x + 1) (rowN (ur U V j)) from hru6.congr fun i _ => seg_done (HS.out.2.2.2) (fun k hk => by rw [HRl.out, HX.out]; exact tk_words HQV.out hk) (by rw [HRl.out]; have := HWl.out; omega) (by rw [← HW.out]; exact HWl.out))
          have HRQ6 := Lib.hid hrq6
          have HV6 := Lib.hid hV6
          have HB6 := Lib.hid hb6
          clear hru6 hrq6 hV6 hb6 HS2' hruk hrqk hVk hbk
          go_wp2_with fail
          go_roundw
          case rel => exact ⟨j, (j : Int) - 1, by omega, rfl, rfl, hru7.out.setOther (by show gU ≠ gQ; omega) _, (HRQ6.out.set _ _).congr fun i _ => above_step (by omega) (int_val (by rw [Nat.add_sub_cancel, ← HQJ.out])), HV6.out.setOther (by show gQ ≠ b2; omega) _, HB6.out.setCell (by show w.heap.size ≤ gQ; omega) _⟩
          case measure => simp [intOf] <;> omega
        · have hlt2 := Nat.lt_mul_div_succ W (show 0 < V by omega)
          rw [← HQ.out, Nat.mul_comm] at hlt2
          have HXW := Lib.hid (show W < X by rw [HX.out]; exact hlt2)
          have hnt : ((S : Int) / 9223372036854775808 == 1) = true := by
            rw [HS2', if_pos HXW.out]; rfl
          have HX1 := Lib.hid (show X = q * V + V by rw [HX.out, Nat.add_mul, Nat.one_mul])
          obtain ⟨D, hD⟩ : ∃ t, t = tk W X (ln y) := ⟨_, rfl⟩
          rw [← hD] at hru6
          have HDX := Lib.hid (show ∀ k, k < ln y + 1 → wd (D + V) k = wd (W - q * V) k from fun k hk => by
            have h0 : X - V = q * V := by rw [HX1.out]; omega
            have h1 := back_words (W := W) (X := X) (V := V) (n := ln y) (k := k) HXW.out (by rw [h0]; exact HQV.out) (by rw [HX1.out]; omega) (by have := HQV.out; have := HX1.out; have := HN.out.1; have h9 : (4294967296 : Nat) ^ ln y ≤ 4294967296 ^ (ln y + 1) := Nat.pow_le_pow_right (by omega) (by omega); omega) hk
            rw [h0, ← hD] at h1; exact h1)
          clear hD hlt2 HS2'
          have hruA := Lib.hid (hru6.congr (g := seg2 Z D (D + V) j (ln y + 1) 0) fun i _ => seg2_zero _ _ _ _ _ _)
          have hq1 : ((q + 1 : Nat) : Int) - 1 = (q : Int) := by omega
          have HRQ6 := Lib.hid hrq6
          have HV6 := Lib.hid hV6
          have HB6 := Lib.hid hb6
          clear hru6 hrq6 hV6 hb6 hruk hrqk hVk hbk
          go_wp2_with fail
          go_loopw [18, 23] (fun c i wx => ∃ k : Nat, k ≤ ln y ∧ i = .int .i64 k ∧ c = .int .u64 (cr D V k : Nat) ∧ wx.rowIs gU 127 (ln x + 1) (seg2 Z D (D + V) j (ln y + 1) k) ∧ wx.rowIs gQ 127 L (above (U / V) (j + 1)) ∧ Nat32 wx (some ⟨b2, 0, none⟩) V ∧ Below w.heap.size w wx) (fun _ i _ => ln y - (intOf i).toNat)
          case atStart => exact ⟨0, Nat.zero_le _, rfl, by rw [cr_zero]; rfl, hruA.out, HRQ6.out, HV6.out, HB6.out⟩
          case round =>
            obtain ⟨k, hk, rfl, rfl, hruk, hrqk, hVk, hbk⟩ := hrel
            clear hruA HRQ6 HV6 HB6 hst hst2 hfr hfr2
            have bc := cr_le D V k
            by_cases hlt : k < ln y
            · obtain ⟨b3, e3, hlt3, hc3⟩ := hVk hV0
              injection e3 with e3; injection e3 with e3
              subst e3
              have hvk := hc3 k (by have := HL.out; omega)
              have hst := hruk.cell (i := k + j) (by omega)
              rw [seg2_at (by omega)] at hst
              have hfr := hruk.frozen (k + j)
              have bD := wd_lt D k
              have bV := wd_lt V k
              clear hc3
              have HC1 := Lib.hid (cr_word D V k)
              have HC2 := Lib.hid (cr_step D V k)
              go_wp2_with fail
              go_quiet (fail)
              go_wp2_with fail
              go_roundw
              case rel => exact ⟨k + 1, by omega, by go_num, int_val (by have := HC2.out; omega), (hruk.set _ _).congr fun i _ => seg2_step (int_val (by have := HC1.out; omega)), hrqk.setOther (by show gQ ≠ gU; omega) _, hVk.setOther (by show gU ≠ b2; omega) _, (below_drewN hbk _).setCell (by show w.heap.size ≤ gU; omega) _⟩
              case measure => simp [intOf]; omega
            · obtain rfl : k = ln y := by omega
              have hst := hruk.cell (i := ln y + j) (by omega)
              rw [seg2_at (by omega), Nat.add_comm (ln y) j] at hst
              have hfr := hruk.frozen (j + ln y)
              have bD := wd_lt D (ln y)
              have hst2 := hrqk.cell (i := j) (by omega)
              have hfr2 := hrqk.frozen j
              have HC1 := Lib.hid (cr_word D V (ln y))
              have HV0 := Lib.hid (show wd V (ln y) = 0 from wd_top HN.out.1 (Nat.le_refl _))
              go_wp2_with fail
              go_roundw
              case rel => exact ⟨j, (j : Int) - 1, by omega, rfl, rfl, (((hruk.set _ _).congr (g := rowN (ur U V j)) fun i _ => by
                  rw [Nat.add_comm j (ln y), seg2_step (int_val (by have h1 := HC1.out; have h2 := HV0.out; omega)), seg2_all]
                  exact seg_done HS.out.2.2.2 (fun k hk => by rw [HDX.out k hk, HRl.out]) (by rw [HRl.out]; have := HWl.out; omega) (by rw [← HW.out]; exact HWl.out))).setOther (by show gU ≠ gQ; omega) _, ((hrqk.setOther (by show gQ ≠ gU; omega) _).set _ _).congr fun i _ => above_step (by omega) (int_val (by rw [Nat.add_sub_cancel, ← HQJ.out])), (hVk.setOther (by show gU ≠ b2; omega) _).setOther (by show gQ ≠ b2; omega) _, (hbk.setCell (by show w.heap.size ≤ gU; omega) _).setCell (by show w.heap.size ≤ gQ; omega) _⟩
              case measure => simp [intOf] <;> omega
    · obtain rfl : k = 0 := by omega
      have HQ0 := Lib.hid (show U / V < 4294967296 ^ L from (by
        rw [Nat.div_lt_iff_lt_mul (by have := HN.out.2; have := pow_pos' (ln y - 1); omega), Nat.mul_comm, HLe.out]; exact HT.out))
      have HR0 := Lib.hid (show ur U V 0 = U % V from ur_zero U V)
      have HUV := Lib.hid (show U % V < 4294967296 ^ ln y from Nat.lt_trans (Nat.mod_lt _ (by have := HN.out.2; have := pow_pos' (ln y - 1); omega)) HN.out.1)
      have hruV := hru.congr (g := rowN (U % V)) fun i _ => by rw [HR0.out]
      have HQC := Lib.hid (show ∀ i, i < L → wr.cell? ⟨gQ, i, none⟩ = some (.int .u32 (wd (U / V) i : Nat)) from fun i hi => by rw [← above_zero]; exact hrq'.cell hi)
      have HUC := Lib.hid (show ∀ i, i < ln y → wr.cell? ⟨gU, i, none⟩ = some (.int .u32 (wd (U % V) i : Nat)) from fun i hi => hruV.cell (by omega))
      have HUN := Lib.hid (show Nat32 wr (some ⟨gU, 0, none⟩) (U % V) from Nat32.ofRow hruV (by have := ln_le HUV.out; omega) fun i _ => rfl)
      have HQN := Lib.hid (show Nat32 wr (some ⟨gQ, 0, none⟩) (U / V) from Nat32.ofRow hrq' (ln_le HQ0.out) fun i _ => above_zero _ _)
      have hul : ln (U % V) ≤ 35184372088832 := by have := ln_le HUV.out; omega
      have hst : ln y ≤ ln x + 1 := by omega
      have HB := Lib.hid hbel
      clear HBV hru hrq' hVr hbel hruV
      go_wp2_with fail
      go_region_with (first
        | (go_at_call_of 134 (Value.slice (some ⟨gQ, 0, none⟩) L L); refine (rtrim_any _ gQ L L (U / V) (by omega) (Nat.le_refl _) HQ0.out (by exact HQC.out)).mono ?_; rintro e w' ⟨rfl, rfl⟩)
        | (go_at_call_of 134 (some (Addr.mk gU 0 none)); go_loud (refine (rtrim_any _ gU (ln y) (ln x + 1) (U % V) (by omega) (by omega) HUV.out (by exact HUC.out)).mono ?_); rintro e w' ⟨rfl, rfl⟩)
        | (go_at_call 149; refine (rshr_any (U % V) (lz y) _ _ _ (by exact HUN.out) hul (by omega)).mono ?_; rintro e w' ⟨AR, cR, rfl, hR, hbR⟩))
      all_goals
        go_wp2_with fail
        go_ret2
        rw [HD.out.1, HD.out.2]
        exact ⟨_, _, _, _, rfl, HQN.out.drew.to hbR, hR, (HB.out.drew).trans (hbR.mono HB.out.size)⟩
end Go.Proofs.YtdpjknjlhchmcaaGreat

namespace Go.Proofs.YtdpjknjlhchmcaaGreat
open Go.RowKit Pl
set_option linter.unusedVariables false
set_option linter.unusedSimpArgs false
set_option maxRecDepth 100000 in
set_option maxHeartbeats 1000000 in
/-- 'NatDiv(x, y)', y not 0. -/
theorem rdiv_any (x y : Nat) (A B : Option Addr) (c d : Nat) (w : World) (hx : Nat32 w A x) (hy : Nat32 w B y) (hbx : ln x ≤ 1099511627776) (hby : ln y ≤ 1099511627776) (hy0 : y ≠ 0) :
    Calls Tryz.prog 129 #[.slice A (ln x) c, .slice B (ln y) d] w (RetNat2C w (x / y) (x % y)) := by
  rcases Nat.lt_or_ge x y with hlt | hle
  · have hcmp : decide (cmpN x y < 0) = true := by rw [cmpN_lt hlt]; rfl
    have hq : x / y = 0 := Nat.div_eq_of_lt hlt
    have hr : x % y = x := Nat.mod_eq_of_lt hlt
    rw [hq, hr]
    clear hq hr
    go_enter Tryz.func129, Tryz.ntmps129
    go_wp2_with fail
    refine (rcmp_any x y A B c d w hx hy (by omega)).mono ?_
    rintro e w1 ⟨rfl, hb1⟩
    have hx1 := hx.to hb1
    have HB := Lib.hid hb1
    clear hb1
    go_wp2_with fail
    go_ret2
    exact ⟨none, 0, A, c, by rw [ln_zero]; rfl, Nat32.zero _ _, hx1, HB.out⟩
  · by_cases hl2 : 2 ≤ ln y
    · exact rdiv_main x y A B c d w hx hy hbx hby hle hl2
    · have hl1 : ln y = 1 := by have := ln_pos hy0; omega
      have hcmp : decide (cmpN x y < 0) = false := by
        unfold cmpN; rw [if_neg (by omega)]; split <;> rfl
      have hyB : y < 4294967296 := by have := lt_ln y; rw [hl1] at this; simpa using this
      have hw0 : wd y 0 = y := by rw [wd_0, Nat.mod_eq_of_lt hyB]
      have t1 : ((ln y : Int) == 1) = true := by rw [hl1]; rfl
      have HW0 := Lib.hid hw0
      have hlp : 0 < ln y := by omega
      clear hw0 hl1
      go_enter Tryz.func129, Tryz.ntmps129
      go_wp2_with fail
      refine (rcmp_any x y A B c d w hx hy (by omega)).mono ?_
      rintro e w1 ⟨rfl, hb1⟩
      obtain ⟨b, rfl, hb, hcy⟩ := (hy.to hb1) hy0
      have hyc := hcy 0 (by omega)
      have hx1 := hx.to hb1
      have HB := Lib.hid hb1
      rw [HW0.out] at hyc
      clear hb1 hcy hy hx
      go_wp2_with fail
      refine (rdigit_any x y c A w1 hx1 (by omega) (by omega) hyB).mono ?_
      rintro e w2 ⟨AQ, cQ, rfl, hQ, hb2⟩
      have hmb : x % y < 18446744073709551616 := Nat.lt_trans (Nat.mod_lt _ (by omega)) (by omega)
      have HM := Lib.hid hmb
      have HB2 := Lib.hid (HB.out.trans (hb2.mono HB.out.size))
      obtain ⟨r, hr⟩ : ∃ r, r = x % y := ⟨_, rfl⟩
      rw [← hr] at HM ⊢
      clear hmb hb2 hyc
      have hrb : r < 4294967296 := by rw [hr]; exact Nat.lt_trans (Nat.mod_lt _ (by omega)) hyB
      have HR := Lib.hid hr
      clear hr
      go_wp2_with fail
      refine (rnatOf_any r HM.out w2).mono ?_
      rintro e w3 ⟨AR, cR, rfl, hR, hb3⟩
      go_wp2_with fail
      go_ret2
      rw [← HR.out]
      exact ⟨AQ, cQ, AR, cR, rfl, hQ.to hb3, hR, HB2.out.trans (hb3.mono HB2.out.size)⟩
set_option maxHeartbeats 1000000 in
/-- 'NatGcd(x, y)'. -/
theorem rgcd_any (x y : Nat) (A B : Option Addr) (c d : Nat) (w : World) (hx : Nat32 w A x) (hy : Nat32 w B y) (hbx : ln x ≤ 1099511627776) (hby : ln y ≤ 1099511627776) :
    Calls Tryz.prog 128 #[.slice A (ln x) c, .slice B (ln y) d] w (RetNatC w (Nat.gcd x y)) := by
  go_enter Tryz.func128, Tryz.ntmps128
  go_wp2_with fail
  go_loopg [0, 1] y (fun m u v wr => ∃ (a : Nat) (A B : Option Addr) (c d : Nat), u = .slice A (ln a) c ∧ v = .slice B (ln m) d ∧ Hid (Nat.gcd a m = Nat.gcd x y) ∧ ln a ≤ 1099511627776 ∧ ln m ≤ 1099511627776 ∧ Nat32 wr A a ∧ Nat32 wr B m ∧ Below w.heap.size w wr)
  case atStart => exact ⟨x, A, B, c, d, rfl, rfl, rfl, hbx, hby, hx, hy, Below.refl _ _⟩
  case round =>
    obtain ⟨a, A', B', c', d', rfl, rfl, hg, ha, hm, hA, hB, hb⟩ := hrel
    clear hx hy
    by_cases hm0 : gk = 0
    · have t1 : decide (0 < ln gk) = false := by rw [hm0, ln_zero]; rfl
      have HG := Lib.hid (show a = Nat.gcd x y by rw [← hg.out, hm0, Nat.gcd_zero_right])
      have HB := Lib.hid hb
      clear hm0 hb hg
      go_wp2_with fail
      go_ret
      rw [← HG.out]
      exact ⟨A', c', rfl, hA, HB.out⟩
    · have t1 : decide (0 < ln gk) = true := by have := ln_pos hm0; simpa using this
      have HB := Lib.hid hb
      clear hb
      go_wp2_with fail
      refine (rdiv_any a gk A' B' c' d' wr hA hB ha hm hm0).mono ?_
      rintro e w1 ⟨AQ, cQ, AR, cR, rfl, hQ, hR, hb1⟩
      have hB1 := hB.to hb1
      have hb2 := HB.out.trans (hb1.mono HB.out.size)
      have hrl : ln (a % gk) ≤ 1099511627776 := Nat.le_trans (ln_mono (Nat.mod_le _ _)) ha
      clear hb1
      go_wp2_with fail
      go_roundg (a % gk)
      case measure => exact Nat.mod_lt _ (by omega)
      case rel => exact ⟨gk, B', AR, d', cR, rfl, rfl, by
        show Nat.gcd gk (a % gk) = Nat.gcd x y
        rw [← hg.out, Nat.gcd_comm gk, ← Nat.gcd_rec, Nat.gcd_comm], hm, hrl, hB1, hR, hb2⟩
end Go.Proofs.YtdpjknjlhchmcaaGreat

namespace Go.Proofs.YtdpjknjlhchmcaaGreat
open Go.RowKit Pl
set_option linter.unusedVariables false
set_option linter.unusedSimpArgs false
/-- A call of the reference hands back an integer. -/
def RetWholeC (w : World) (z : Int) (e : Ending) (w' : World) : Prop := ∃ A c, e = .returned (.agg #[.bool (sn z), .slice A (ln (ab z)) c]) ∧ Nat32 w' A (ab z) ∧ Below w.heap.size w w'
theorem retWholeC_mk {w w' : World} {s : Bool} {n d : Nat} {A : Option Addr} (h : Nat32 w' A n) (hb : Below w.heap.size w w') (c : Bool) (hc : c = (s && decide (0 < ln n))) : RetWholeC w (zi s n) (.returned (.agg #[.bool c, .slice A (ln n) d])) w' := by
  refine ⟨A, d, ?_, by rw [zi_ab]; exact h, hb⟩
  rw [zi_ab, hc]
  by_cases hn : n = 0
  · subst hn; rw [zi_zero, sn_zero, ln_zero]; simp
  · rw [zi_sn s hn]; have := ln_pos hn; simp [this]
theorem retWholeC_fin {w W : World} {z : Int} {A : Option Addr} {R d : Nat} {c : Bool} (hB : Hid (Below w.heap.size w W)) (h1 : Nat32 W A (ab z)) (hR : w.heap.size ≤ R) (r0 : W.cell? ⟨R, 0, none⟩ = some (.bool c)) :
    RetWholeC w z (.returned (.agg #[.bool (sn z), .slice A (ln (ab z)) d])) ((W.setCell ⟨R, 0, none⟩ (.bool (sn z))).setCell ⟨R, 1, none⟩ (.slice A (ln (ab z)) d)) :=
  ⟨A, d, rfl, (h1.setBox r0 (by intro k m e; cases e)).setBox (cell_self r0) (by intro k m e; cases e), (hB.out.setCell (by exact hR) _).setCell (by exact hR) _⟩
def Num3C (w : World) (A1 A2 A3 : Option Addr) (q : Cx) : Prop := Nat32 w A1 (ab (na q)) ∧ Nat32 w A2 (ab (nb q)) ∧ Nat32 w A3 (nd q)
theorem Num3C.to {w w' : World} {A1 A2 A3 : Option Addr} {q : Cx} (h : Num3C w A1 A2 A3 q) (hb : Below w.heap.size w w') : Num3C w' A1 A2 A3 q := ⟨h.1.to hb, h.2.1.to hb, h.2.2.to hb⟩
theorem Num3C.setBox {w : World} {A1 A2 A3 : Option Addr} {q : Cx} {R i : Nat} {v u : Value} (h : Num3C w A1 A2 A3 q) (hv : w.cell? ⟨R, 0, none⟩ = some v) (hne : ∀ k m, v ≠ .int k m) : Num3C (w.setCell ⟨R, i, none⟩ u) A1 A2 A3 q :=
  ⟨h.1.setBox hv hne, h.2.1.setBox hv hne, h.2.2.setBox hv hne⟩
/-- A call of the reference hands back a number. -/
def RetNumC (w : World) (q : Cx) (e : Ending) (w' : World) : Prop := ∃ A1 A2 A3 c1 c2 c3, e = .returned (.agg #[.bool (sn (na q)), .slice A1 (ln (ab (na q))) c1, .bool (sn (nb q)), .slice A2 (ln (ab (nb q))) c2, .slice A3 (ln (nd q)) c3]) ∧ Num3C w' A1 A2 A3 q ∧ Below w.heap.size w w'
theorem retNumC_fin {w W : World} {q : Cx} {A1 A2 A3 : Option Addr} {R d1 d2 d3 : Nat} {c : Bool} (hB : Hid (Below w.heap.size w W)) (h1 : Num3C W A1 A2 A3 q) (hR : w.heap.size ≤ R) (r0 : W.cell? ⟨R, 0, none⟩ = some (.bool c)) :
    RetNumC w q (.returned (.agg #[.bool (sn (na q)), .slice A1 (ln (ab (na q))) d1, .bool (sn (nb q)), .slice A2 (ln (ab (nb q))) d2, .slice A3 (ln (nd q)) d3]))
      (((((W.setCell ⟨R, 0, none⟩ (.bool (sn (na q)))).setCell ⟨R, 1, none⟩ (.slice A1 (ln (ab (na q))) d1)).setCell ⟨R, 2, none⟩ (.bool (sn (nb q)))).setCell ⟨R, 3, none⟩ (.slice A2 (ln (ab (nb q))) d2)).setCell ⟨R, 4, none⟩ (.slice A3 (ln (nd q)) d3)) := by
  have c1 := cell_self (u := .bool (sn (na q))) r0
  have c2 := keepo (R := R) (j := 1) (u := .slice A1 (ln (ab (na q))) d1) c1 (by simp)
  have c3 := keepo (R := R) (j := 2) (u := .bool (sn (nb q))) c2 (by simp)
  have c4 := keepo (R := R) (j := 3) (u := .slice A2 (ln (ab (nb q))) d2) c3 (by simp)
  have nb : ∀ (b : Bool) k m, Value.bool b ≠ .int k m := by intro b k m e; cases e
  exact ⟨A1, A2, A3, d1, d2, d3, rfl, ((((h1.setBox r0 (nb _)).setBox c1 (nb _)).setBox c2 (nb _)).setBox c3 (nb _)).setBox c4 (nb _),
    ((((hB.out.setCell (by exact hR) _).setCell (by exact hR) _).setCell (by exact hR) _).setCell (by exact hR) _).setCell (by exact hR) _⟩
theorem iwrap_neg {n : Int} (h1 : -9223372036854775808 ≤ n) (h2 : n < 0) : IntKind.u64.wrap (wrap64 (-n)) = (ab n : Int) := by
  unfold ab; simp [wrap64, IntKind.wrap, IntKind.bits, IntKind.signed]; omega
set_option maxHeartbeats 400000 in
theorem rsigned_any (s : Bool) (n : Nat) (A : Option Addr) (c : Nat) (w : World) (h : Nat32 w A n) :
    Calls Tryz.prog 130 #[.bool s, .slice A (ln n) c] w (RetWholeC w (zi s n)) := by
  cases s
  · go_enter Tryz.func130, Tryz.ntmps130
    go_wp2_with fail
    exact bodyPost_ret (v := .agg #[.bool false, .slice A (ln n) c]) (by simp [results, Tryz.results130, go_sem]) rfl (retWholeC_mk (h.alloc _) ((Below.refl _ _).alloc (Nat.le_refl _) _) _ rfl)
  · by_cases hn : n = 0
    · have t : decide (0 < ln n) = false := by rw [hn, ln_zero]; rfl
      clear hn
      go_enter Tryz.func130, Tryz.ntmps130
      go_wp2_with fail
      exact bodyPost_ret (v := .agg #[.bool false, .slice A (ln n) c]) (by simp [results, Tryz.results130, go_sem]) rfl (retWholeC_mk (h.alloc _) ((Below.refl _ _).alloc (Nat.le_refl _) _) _ (by rw [t]; rfl))
    · have t : decide (0 < ln n) = true := by have := ln_pos hn; simpa using this
      clear hn
      go_enter Tryz.func130, Tryz.ntmps130
      go_wp2_with fail
      exact bodyPost_ret (v := .agg #[.bool true, .slice A (ln n) c]) (by simp [results, Tryz.results130, go_sem]) rfl (retWholeC_mk (h.alloc _) ((Below.refl _ _).alloc (Nat.le_refl _) _) _ (by rw [t]; rfl))
set_option maxHeartbeats 4000000 in
theorem rintOf_neg (n : Int) (w : World) (h1 : -9223372036854775808 ≤ n) (h2 : n < 0) :
    Calls Tryz.prog 114 #[.int .i64 n] w (RetWholeC w n) := by
  have E := Lib.hid (iwrap_neg h1 h2)
  have B : Hid (ab n < 18446744073709551616) := Lib.hid (by unfold ab; omega)
  have T : Hid (sn n = true) := Lib.hid (by unfold sn; rw [decide_eq_true_eq]; omega)
  have t0 : decide (n < 0) = true := T.out
  clear h1 h2
  go_enter Tryz.func114, Tryz.ntmps114
  go_wp2_with fail
  obtain ⟨W, hW⟩ : ∃ W : World, W = (w.alloc (.cells #[.bool false, .slice none 0 0] 64)) := ⟨_, rfl⟩
  have r0 : W.cell? ⟨w.heap.size, 0, none⟩ = some (.bool false) := by subst hW; go_simp
  have f0 : W.frozen? ⟨w.heap.size, 0, none⟩ = false := by subst hW; go_simp
  have r1 : W.cell? ⟨w.heap.size, 1, none⟩ = some (.slice none 0 0) := by subst hW; go_simp
  have f1 : W.frozen? ⟨w.heap.size, 1, none⟩ = false := by subst hW; go_simp
  have HW : Below w.heap.size w W := by subst hW; exact ((Below.refl w.heap.size w).alloc (Nat.le_refl _) _)
  have l0 : w.heap.size < W.heap.size := by subst hW; simp
  rw [← hW]
  clear hW
  replace HW := Lib.hid HW
  rw [E.out]
  refine (rnatOf_any (ab n) B.out _).mono ?_
  rintro e w1 ⟨A1, cA1, rfl, h1, hb1⟩
  replace r0 := keepc hb1 r0 l0
  replace f0 := keepf hb1 f0 l0
  replace r1 := keepc hb1 r1 l0
  replace f1 := keepf hb1 f1 l0
  replace l0 := Nat.lt_of_lt_of_le l0 hb1.size
  replace HW := Lib.hid (hstep HW hb1)
  clear hb1
  go_wp2_with fail
  have t := T.out
  exact bodyPost_ret (v := .agg #[.bool true, .slice A1 (ln (ab n)) cA1]) (by simp [results, Tryz.results114, go_sem, r0, r1, f0, f1]) rfl (by have := retWholeC_fin (d := cA1) HW h1 (by omega) r0; rw [t] at this; exact this)
set_option maxHeartbeats 4000000 in
theorem rintOf_pos (n : Int) (w : World) (h1 : n ≤ 9223372036854775807) (h2 : 0 ≤ n) :
    Calls Tryz.prog 114 #[.int .i64 n] w (RetWholeC w n) := by
  have E := Lib.hid (wrap_pos h1 h2)
  have B : Hid (ab n < 18446744073709551616) := Lib.hid (by unfold ab; omega)
  have T : Hid (sn n = false) := Lib.hid (by unfold sn; rw [decide_eq_false_iff_not]; omega)
  have t0 : decide (n < 0) = false := T.out
  clear h1 h2
  go_enter Tryz.func114, Tryz.ntmps114
  go_wp2_with fail
  obtain ⟨W, hW⟩ : ∃ W : World, W = (w.alloc (.cells #[.bool false, .slice none 0 0] 64)) := ⟨_, rfl⟩
  have r0 : W.cell? ⟨w.heap.size, 0, none⟩ = some (.bool false) := by subst hW; go_simp
  have f0 : W.frozen? ⟨w.heap.size, 0, none⟩ = false := by subst hW; go_simp
  have r1 : W.cell? ⟨w.heap.size, 1, none⟩ = some (.slice none 0 0) := by subst hW; go_simp
  have f1 : W.frozen? ⟨w.heap.size, 1, none⟩ = false := by subst hW; go_simp
  have HW : Below w.heap.size w W := by subst hW; exact ((Below.refl w.heap.size w).alloc (Nat.le_refl _) _)
  have l0 : w.heap.size < W.heap.size := by subst hW; simp
  rw [← hW]
  clear hW
  replace HW := Lib.hid HW
  rw [E.out]
  refine (rnatOf_any (ab n) B.out _).mono ?_
  rintro e w1 ⟨A1, cA1, rfl, h1, hb1⟩
  replace r0 := keepc hb1 r0 l0
  replace f0 := keepf hb1 f0 l0
  replace r1 := keepc hb1 r1 l0
  replace f1 := keepf hb1 f1 l0
  replace l0 := Nat.lt_of_lt_of_le l0 hb1.size
  replace HW := Lib.hid (hstep HW hb1)
  clear hb1
  go_wp2_with fail
  have t := T.out
  exact bodyPost_ret (v := .agg #[.bool false, .slice A1 (ln (ab n)) cA1]) (by simp [results, Tryz.results114, go_sem, r0, r1, f0, f1]) rfl (by have := retWholeC_fin (d := cA1) HW h1 (by omega) r0; rw [t] at this; exact this)
/-- 'IntOf(n)'. -/
theorem rintOf_any (n : Int) (w : World) (h1 : -9223372036854775808 ≤ n) (h2 : n ≤ 9223372036854775807) :
    Calls Tryz.prog 114 #[.int .i64 n] w (RetWholeC w n) := by
  by_cases h : n < 0
  · exact rintOf_neg n w h1 h
  · exact rintOf_pos n w h2 (by omega)
set_option maxHeartbeats 4000000 in
theorem rintNeg_any (z : Int) (A : Option Addr) (cA : Nat) (w : World) (hx : Nat32 w A (ab z)) :
    Calls Tryz.prog 112 #[.agg #[.bool (sn (z)), .slice A (ln (ab (z))) cA]] w (RetWholeC w (-z)) := by
  rw [← minus_val]
  go_enter Tryz.func112, Tryz.ntmps112
  go_wp2_with fail
  obtain ⟨W, hW⟩ : ∃ W : World, W = ((w.alloc (.cells #[.bool (sn (z)), .slice A (ln (ab (z))) cA] 64)).alloc (.cells #[.bool false, .slice none 0 0] 64)) := ⟨_, rfl⟩
  have s0_0 : W.cell? ⟨w.heap.size, 0, none⟩ = some (.bool (sn (z))) := by subst hW; go_simp
  have s0_1 : W.cell? ⟨w.heap.size, 1, none⟩ = some (.slice A (ln (ab (z))) cA) := by subst hW; go_simp
  have r0 : W.cell? ⟨w.heap.size + 1, 0, none⟩ = some (.bool false) := by subst hW; go_simp
  have f0 : W.frozen? ⟨w.heap.size + 1, 0, none⟩ = false := by subst hW; go_simp
  have r1 : W.cell? ⟨w.heap.size + 1, 1, none⟩ = some (.slice none 0 0) := by subst hW; go_simp
  have f1 : W.frozen? ⟨w.heap.size + 1, 1, none⟩ = false := by subst hW; go_simp
  have HW : Below w.heap.size w W := by subst hW; exact (((Below.refl w.heap.size w).alloc (Nat.le_refl _) _).alloc (by simp) _)
  have l0 : w.heap.size < W.heap.size := by subst hW; simp <;> omega
  have l1 : w.heap.size + 1 < W.heap.size := by subst hW; simp
  have n0 : w.heap.size ≠ w.heap.size + 1 := by omega
  replace hx := hx.to HW
  rw [← hW]
  clear hW
  replace HW := Lib.hid HW
  refine (rsigned_any (!sn z) (ab z) A cA _ (by exact hx)).mono ?_
  rintro e w1 ⟨A1, cA1, rfl, h1, hb1⟩
  replace s0_0 := keepc hb1 s0_0 l0
  replace s0_1 := keepc hb1 s0_1 l0
  replace r0 := keepc hb1 r0 l1
  replace f0 := keepf hb1 f0 l1
  replace r1 := keepc hb1 r1 l1
  replace f1 := keepf hb1 f1 l1
  replace l0 := Nat.lt_of_lt_of_le l0 hb1.size
  replace l1 := Nat.lt_of_lt_of_le l1 hb1.size
  replace hx := hx.to hb1
  replace HW := Lib.hid (hstep HW hb1)
  clear hb1
  go_wp2_with fail
  exact bodyPost_ret (v := .agg #[.bool (sn (zi (!sn z) (ab z))), .slice A1 (ln (ab (zi (!sn z) (ab z)))) cA1]) (by simp [results, Tryz.results112, go_sem, r0, r1, f0, f1]) rfl (retWholeC_fin HW h1 (by omega) r0)
end Go.Proofs.YtdpjknjlhchmcaaGreat

namespace Go.Proofs.YtdpjknjlhchmcaaGreat
open Go.RowKit Pl
set_option linter.unusedVariables false
set_option linter.unusedSimpArgs false
theorem rsigned_z {z : Int} {s : Bool} {n : Nat} (hz : zi s n = z) (A : Option Addr) (c : Nat) (w : World) (h : Nat32 w A n) :
    Calls Tryz.prog 130 #[.bool s, .slice A (ln n) c] w (RetWholeC w z) := by
  subst hz; exact rsigned_any s n A c w h
theorem one_len {g : Nat} (h : g = 1) : ((ln g : Int) == 1) = true := by
  have h1 := ln_le (n := g) (k := 1) (by omega)
  have h2 := ln_pos (show g ≠ 0 by omega)
  rw [beq_iff_eq]; omega
theorem one_wd {g : Nat} (h : g = 1) : ((wd g 0 : Int) == 1) = true := by rw [wd_0, h]; rfl
theorem few_wd {g : Nat} (h : g ≠ 1) (hl : ln g = 1) : ((wd g 0 : Int) == 1) = false := by
  have h1 := lt_ln g
  rw [hl] at h1
  have e : wd g 0 = g := by rw [wd_0, Nat.mod_eq_of_lt (by simpa using h1)]
  rw [e, beq_eq_false_iff_ne]; omega
theorem make_forms {a b : Int} {d : Nat} (hd : d ≠ 0) : zi (sn a) (ab a / gg a b d) = na (fr a b d) ∧ zi (sn b) (ab b / gg a b d) = nb (fr a b d) ∧ d / gg a b d = nd (fr a b d) := by
  obtain ⟨f1, f2, f3, f4, f5⟩ := over_form (a := a) (b := b) hd
  refine ⟨?_, ?_, f5.symm⟩
  · rw [← f2, ← f1, zi_self]
  · rw [← f4, ← f3, zi_self]
theorem make_one {a b : Int} {d : Nat} (hd : d ≠ 0) (h : gg a b d = 1) : na (fr a b d) = a ∧ nb (fr a b d) = b ∧ nd (fr a b d) = d := by
  obtain ⟨f1, f2, f3⟩ := make_forms (a := a) (b := b) hd
  rw [h, Nat.div_one] at f1 f2 f3
  rw [zi_self] at f1 f2
  exact ⟨f1.symm, f2.symm, f3.symm⟩
set_option maxHeartbeats 4000000 in
theorem rmake_one (a b : Int) (d : Nat) (A B D : Option Addr) (cA cB cD : Nat) (w : World) (hx : Nat32 w A (ab a)) (hy : Nat32 w B (ab b)) (hd : Nat32 w D d) (hbx : ln (ab a) ≤ 1099511627776) (hby : ln (ab b) ≤ 1099511627776) (hbd : ln d ≤ 1099511627776) (hd0 : d ≠ 0) (g : Nat) (hg : g = gg a b d) (hg1 : g = 1) :
    Calls Tryz.prog 107 #[.agg #[.bool (sn (a)), .slice A (ln (ab (a))) cA], .agg #[.bool (sn (b)), .slice B (ln (ab (b))) cB], .slice D (ln d) cD] w (RetNumC w (fr a b d)) := by
  have g0 : 0 < g := by rw [hg]; exact gg_pos a b (by omega)
  have HG := Lib.hid hg
  have hgl : ln g ≤ 1099511627776 := Nat.le_trans (ln_mono (Nat.le_of_dvd (by omega) (by rw [hg]; exact (gg_dvd a b d).2.2))) hbd
  have lg0 := ln_pos (show g ≠ 0 by omega)
  have T1 : Hid (((ln g : Int) == 1) = true) := Lib.hid (one_len hg1)
  have T2 : Hid (((wd g 0 : Int) == 1) = true) := Lib.hid (one_wd hg1)
  have HQ := Lib.hid (make_one hd0 (by rw [← hg]; exact hg1))
  clear hg hg1
  obtain ⟨q, hq⟩ : ∃ q, q = fr a b d := ⟨_, rfl⟩
  rw [← hq] at HQ ⊢
  clear hq
  go_enter Tryz.func107, Tryz.ntmps107
  go_wp2_with fail
  obtain ⟨W, hW⟩ : ∃ W : World, W = (((w.alloc (.cells #[.bool (sn (a)), .slice A (ln (ab (a))) cA] 64)).alloc (.cells #[.bool (sn (b)), .slice B (ln (ab (b))) cB] 64)).alloc (.cells #[.bool false, .slice none 0 0, .bool false, .slice none 0 0, .slice none 0 0] 66)) := ⟨_, rfl⟩
  have s0_0 : W.cell? ⟨w.heap.size, 0, none⟩ = some (.bool (sn (a))) := by subst hW; go_simp
  have g0_0 : W.frozen? ⟨w.heap.size, 0, none⟩ = false := by subst hW; go_simp
  have s0_1 : W.cell? ⟨w.heap.size, 1, none⟩ = some (.slice A (ln (ab (a))) cA) := by subst hW; go_simp
  have g0_1 : W.frozen? ⟨w.heap.size, 1, none⟩ = false := by subst hW; go_simp
  have s1_0 : W.cell? ⟨w.heap.size + 1, 0, none⟩ = some (.bool (sn (b))) := by subst hW; go_simp
  have g1_0 : W.frozen? ⟨w.heap.size + 1, 0, none⟩ = false := by subst hW; go_simp
  have s1_1 : W.cell? ⟨w.heap.size + 1, 1, none⟩ = some (.slice B (ln (ab (b))) cB) := by subst hW; go_simp
  have g1_1 : W.frozen? ⟨w.heap.size + 1, 1, none⟩ = false := by subst hW; go_simp
  have r0 : W.cell? ⟨w.heap.size + 1 + 1, 0, none⟩ = some (.bool false) := by subst hW; go_simp
  have f0 : W.frozen? ⟨w.heap.size + 1 + 1, 0, none⟩ = false := by subst hW; go_simp
  have r1 : W.cell? ⟨w.heap.size + 1 + 1, 1, none⟩ = some (.slice none 0 0) := by subst hW; go_simp
  have f1 : W.frozen? ⟨w.heap.size + 1 + 1, 1, none⟩ = false := by subst hW; go_simp
  have r2 : W.cell? ⟨w.heap.size + 1 + 1, 2, none⟩ = some (.bool false) := by subst hW; go_simp
  have f2 : W.frozen? ⟨w.heap.size + 1 + 1, 2, none⟩ = false := by subst hW; go_simp
  have r3 : W.cell? ⟨w.heap.size + 1 + 1, 3, none⟩ = some (.slice none 0 0) := by subst hW; go_simp
  have f3 : W.frozen? ⟨w.heap.size + 1 + 1, 3, none⟩ = false := by subst hW; go_simp
  have r4 : W.cell? ⟨w.heap.size + 1 + 1, 4, none⟩ = some (.slice none 0 0) := by subst hW; go_simp
  have f4 : W.frozen? ⟨w.heap.size + 1 + 1, 4, none⟩ = false := by subst hW; go_simp
  have HW : Below w.heap.size w W := by subst hW; exact ((((Below.refl w.heap.size w).alloc (Nat.le_refl _) _).alloc (by simp) _).alloc (by simp; omega) _)
  have l0 : w.heap.size < W.heap.size := by subst hW; simp <;> omega
  have l1 : w.heap.size + 1 < W.heap.size := by subst hW; simp <;> omega
  have l2 : w.heap.size + 1 + 1 < W.heap.size := by subst hW; simp
  have n0 : w.heap.size ≠ w.heap.size + 1 + 1 := by omega
  have n1 : w.heap.size + 1 ≠ w.heap.size + 1 + 1 := by omega
  replace hx := hx.to HW
  replace hy := hy.to HW
  replace hd := hd.to HW
  rw [← hW]
  clear hW
  replace HW := Lib.hid HW
  refine (rgcd_any (ab a) (ab b) A B cA cB _ (by exact hx) (by exact hy) hbx hby).mono ?_
  rintro e w1 ⟨A1, c1, rfl, h1, hb1⟩
  replace s0_0 := keepc hb1 s0_0 l0
  replace g0_0 := keepf hb1 g0_0 l0
  replace s0_1 := keepc hb1 s0_1 l0
  replace g0_1 := keepf hb1 g0_1 l0
  replace s1_0 := keepc hb1 s1_0 l1
  replace g1_0 := keepf hb1 g1_0 l1
  replace s1_1 := keepc hb1 s1_1 l1
  replace g1_1 := keepf hb1 g1_1 l1
  replace r0 := keepc hb1 r0 l2
  replace f0 := keepf hb1 f0 l2
  replace r1 := keepc hb1 r1 l2
  replace f1 := keepf hb1 f1 l2
  replace r2 := keepc hb1 r2 l2
  replace f2 := keepf hb1 f2 l2
  replace r3 := keepc hb1 r3 l2
  replace f3 := keepf hb1 f3 l2
  replace r4 := keepc hb1 r4 l2
  replace f4 := keepf hb1 f4 l2
  replace l0 := Nat.lt_of_lt_of_le l0 hb1.size
  replace l1 := Nat.lt_of_lt_of_le l1 hb1.size
  replace l2 := Nat.lt_of_lt_of_le l2 hb1.size
  replace hx := hx.to hb1
  replace hy := hy.to hb1
  replace hd := hd.to hb1
  replace HW := Lib.hid (hstep HW hb1)
  clear hb1
  go_wp2_with fail
  have hl1 : ln (Nat.gcd (ab a) (ab b)) ≤ 1099511627776 := gcd_ln hbx hby
  refine (rgcd_any (Nat.gcd (ab a) (ab b)) d A1 D c1 cD _ (by exact h1) (by exact hd) hl1 hbd).mono ?_
  rintro e w2 ⟨A2, c2, rfl, h2, hb2⟩
  replace s0_0 := keepc hb2 s0_0 l0
  replace g0_0 := keepf hb2 g0_0 l0
  replace s0_1 := keepc hb2 s0_1 l0
  replace g0_1 := keepf hb2 g0_1 l0
  replace s1_0 := keepc hb2 s1_0 l1
  replace g1_0 := keepf hb2 g1_0 l1
  replace s1_1 := keepc hb2 s1_1 l1
  replace g1_1 := keepf hb2 g1_1 l1
  replace r0 := keepc hb2 r0 l2
  replace f0 := keepf hb2 f0 l2
  replace r1 := keepc hb2 r1 l2
  replace f1 := keepf hb2 f1 l2
  replace r2 := keepc hb2 r2 l2
  replace f2 := keepf hb2 f2 l2
  replace r3 := keepc hb2 r3 l2
  replace f3 := keepf hb2 f3 l2
  replace r4 := keepc hb2 r4 l2
  replace f4 := keepf hb2 f4 l2
  replace l0 := Nat.lt_of_lt_of_le l0 hb2.size
  replace l1 := Nat.lt_of_lt_of_le l1 hb2.size
  replace l2 := Nat.lt_of_lt_of_le l2 hb2.size
  replace hx := hx.to hb2
  replace hy := hy.to hb2
  replace hd := hd.to hb2
  replace h1 := h1.to hb2
  replace HW := Lib.hid (hstep HW hb2)
  clear hb2
  rw [show Nat.gcd (Nat.gcd (ab a) (ab b)) d = g from HG.out.symm] at h2 ⊢
  obtain ⟨bg, hA2, hbg, hcg⟩ := id h2 (by omega)
  subst hA2
  have hgc := hcg 0 lg0
  have t1 := T1.out
  have t2 := T2.out
  clear hcg hbg
  go_wp2_with fail
  refine bodyPost_ret (v := .agg #[.bool (sn a), .slice A (ln (ab a)) cA, .bool (sn b), .slice B (ln (ab b)) cB, .slice D (ln d) cD]) (by simp [results, Tryz.results107, go_sem, r0, r1, r2, r3, r4, f0, f1, f2, f3, f4]) rfl ?_
  have h := retNumC_fin (q := q) (A1 := A) (A2 := B) (A3 := D) (d1 := cA) (d2 := cB) (d3 := cD) HW ⟨by rw [HQ.out.1]; exact hx, by rw [HQ.out.2.1]; exact hy, by rw [HQ.out.2.2]; exact hd⟩ (by omega) r0
  rw [HQ.out.1, HQ.out.2.1, HQ.out.2.2] at h
  exact h
set_option maxHeartbeats 4000000 in
theorem rmake_few (a b : Int) (d : Nat) (A B D : Option Addr) (cA cB cD : Nat) (w : World) (hx : Nat32 w A (ab a)) (hy : Nat32 w B (ab b)) (hd : Nat32 w D d) (hbx : ln (ab a) ≤ 1099511627776) (hby : ln (ab b) ≤ 1099511627776) (hbd : ln d ≤ 1099511627776) (hd0 : d ≠ 0) (g : Nat) (hg : g = gg a b d) (hg1 : g ≠ 1) (hl : ln g = 1) :
    Calls Tryz.prog 107 #[.agg #[.bool (sn (a)), .slice A (ln (ab (a))) cA], .agg #[.bool (sn (b)), .slice B (ln (ab (b))) cB], .slice D (ln d) cD] w (RetNumC w (fr a b d)) := by
  have g0 : 0 < g := by rw [hg]; exact gg_pos a b (by omega)
  have HG := Lib.hid hg
  have hgl : ln g ≤ 1099511627776 := Nat.le_trans (ln_mono (Nat.le_of_dvd (by omega) (by rw [hg]; exact (gg_dvd a b d).2.2))) hbd
  have lg0 := ln_pos (show g ≠ 0 by omega)
  have T1 : Hid (((ln g : Int) == 1) = true) := Lib.hid (by rw [hl]; rfl)
  have T2 : Hid (((wd g 0 : Int) == 1) = false) := Lib.hid (few_wd hg1 hl)
  have HZ := Lib.hid (make_forms (a := a) (b := b) hd0)
  rw [← hg] at HZ
  clear hg hg1 hl
  obtain ⟨q, hq⟩ : ∃ q, q = fr a b d := ⟨_, rfl⟩
  rw [← hq] at HZ ⊢
  clear hq
  go_enter Tryz.func107, Tryz.ntmps107
  go_wp2_with fail
  obtain ⟨W, hW⟩ : ∃ W : World, W = (((w.alloc (.cells #[.bool (sn (a)), .slice A (ln (ab (a))) cA] 64)).alloc (.cells #[.bool (sn (b)), .slice B (ln (ab (b))) cB] 64)).alloc (.cells #[.bool false, .slice none 0 0, .bool false, .slice none 0 0, .slice none 0 0] 66)) := ⟨_, rfl⟩
  have s0_0 : W.cell? ⟨w.heap.size, 0, none⟩ = some (.bool (sn (a))) := by subst hW; go_simp
  have g0_0 : W.frozen? ⟨w.heap.size, 0, none⟩ = false := by subst hW; go_simp
  have s0_1 : W.cell? ⟨w.heap.size, 1, none⟩ = some (.slice A (ln (ab (a))) cA) := by subst hW; go_simp
  have g0_1 : W.frozen? ⟨w.heap.size, 1, none⟩ = false := by subst hW; go_simp
  have s1_0 : W.cell? ⟨w.heap.size + 1, 0, none⟩ = some (.bool (sn (b))) := by subst hW; go_simp
  have g1_0 : W.frozen? ⟨w.heap.size + 1, 0, none⟩ = false := by subst hW; go_simp
  have s1_1 : W.cell? ⟨w.heap.size + 1, 1, none⟩ = some (.slice B (ln (ab (b))) cB) := by subst hW; go_simp
  have g1_1 : W.frozen? ⟨w.heap.size + 1, 1, none⟩ = false := by subst hW; go_simp
  have r0 : W.cell? ⟨w.heap.size + 1 + 1, 0, none⟩ = some (.bool false) := by subst hW; go_simp
  have f0 : W.frozen? ⟨w.heap.size + 1 + 1, 0, none⟩ = false := by subst hW; go_simp
  have r1 : W.cell? ⟨w.heap.size + 1 + 1, 1, none⟩ = some (.slice none 0 0) := by subst hW; go_simp
  have f1 : W.frozen? ⟨w.heap.size + 1 + 1, 1, none⟩ = false := by subst hW; go_simp
  have r2 : W.cell? ⟨w.heap.size + 1 + 1, 2, none⟩ = some (.bool false) := by subst hW; go_simp
  have f2 : W.frozen? ⟨w.heap.size + 1 + 1, 2, none⟩ = false := by subst hW; go_simp
  have r3 : W.cell? ⟨w.heap.size + 1 + 1, 3, none⟩ = some (.slice none 0 0) := by subst hW; go_simp
  have f3 : W.frozen? ⟨w.heap.size + 1 + 1, 3, none⟩ = false := by subst hW; go_simp
  have r4 : W.cell? ⟨w.heap.size + 1 + 1, 4, none⟩ = some (.slice none 0 0) := by subst hW; go_simp
  have f4 : W.frozen? ⟨w.heap.size + 1 + 1, 4, none⟩ = false := by subst hW; go_simp
  have HW : Below w.heap.size w W := by subst hW; exact ((((Below.refl w.heap.size w).alloc (Nat.le_refl _) _).alloc (by simp) _).alloc (by simp; omega) _)
  have l0 : w.heap.size < W.heap.size := by subst hW; simp <;> omega
  have l1 : w.heap.size + 1 < W.heap.size := by subst hW; simp <;> omega
  have l2 : w.heap.size + 1 + 1 < W.heap.size := by subst hW; simp
  have n0 : w.heap.size ≠ w.heap.size + 1 + 1 := by omega
  have n1 : w.heap.size + 1 ≠ w.heap.size + 1 + 1 := by omega
  replace hx := hx.to HW
  replace hy := hy.to HW
  replace hd := hd.to HW
  rw [← hW]
  clear hW
  replace HW := Lib.hid HW
  refine (rgcd_any (ab a) (ab b) A B cA cB _ (by exact hx) (by exact hy) hbx hby).mono ?_
  rintro e w1 ⟨A1, c1, rfl, h1, hb1⟩
  replace s0_0 := keepc hb1 s0_0 l0
  replace g0_0 := keepf hb1 g0_0 l0
  replace s0_1 := keepc hb1 s0_1 l0
  replace g0_1 := keepf hb1 g0_1 l0
  replace s1_0 := keepc hb1 s1_0 l1
  replace g1_0 := keepf hb1 g1_0 l1
  replace s1_1 := keepc hb1 s1_1 l1
  replace g1_1 := keepf hb1 g1_1 l1
  replace r0 := keepc hb1 r0 l2
  replace f0 := keepf hb1 f0 l2
  replace r1 := keepc hb1 r1 l2
  replace f1 := keepf hb1 f1 l2
  replace r2 := keepc hb1 r2 l2
  replace f2 := keepf hb1 f2 l2
  replace r3 := keepc hb1 r3 l2
  replace f3 := keepf hb1 f3 l2
  replace r4 := keepc hb1 r4 l2
  replace f4 := keepf hb1 f4 l2
  replace l0 := Nat.lt_of_lt_of_le l0 hb1.size
  replace l1 := Nat.lt_of_lt_of_le l1 hb1.size
  replace l2 := Nat.lt_of_lt_of_le l2 hb1.size
  replace hx := hx.to hb1
  replace hy := hy.to hb1
  replace hd := hd.to hb1
  replace HW := Lib.hid (hstep HW hb1)
  clear hb1
  go_wp2_with fail
  have hl1 : ln (Nat.gcd (ab a) (ab b)) ≤ 1099511627776 := gcd_ln hbx hby
  refine (rgcd_any (Nat.gcd (ab a) (ab b)) d A1 D c1 cD _ (by exact h1) (by exact hd) hl1 hbd).mono ?_
  rintro e w2 ⟨A2, c2, rfl, h2, hb2⟩
  replace s0_0 := keepc hb2 s0_0 l0
  replace g0_0 := keepf hb2 g0_0 l0
  replace s0_1 := keepc hb2 s0_1 l0
  replace g0_1 := keepf hb2 g0_1 l0
  replace s1_0 := keepc hb2 s1_0 l1
  replace g1_0 := keepf hb2 g1_0 l1
  replace s1_1 := keepc hb2 s1_1 l1
  replace g1_1 := keepf hb2 g1_1 l1
  replace r0 := keepc hb2 r0 l2
  replace f0 := keepf hb2 f0 l2
  replace r1 := keepc hb2 r1 l2
  replace f1 := keepf hb2 f1 l2
  replace r2 := keepc hb2 r2 l2
  replace f2 := keepf hb2 f2 l2
  replace r3 := keepc hb2 r3 l2
  replace f3 := keepf hb2 f3 l2
  replace r4 := keepc hb2 r4 l2
  replace f4 := keepf hb2 f4 l2
  replace l0 := Nat.lt_of_lt_of_le l0 hb2.size
  replace l1 := Nat.lt_of_lt_of_le l1 hb2.size
  replace l2 := Nat.lt_of_lt_of_le l2 hb2.size
  replace hx := hx.to hb2
  replace hy := hy.to hb2
  replace hd := hd.to hb2
  replace h1 := h1.to hb2
  replace HW := Lib.hid (hstep HW hb2)
  clear hb2
  rw [show Nat.gcd (Nat.gcd (ab a) (ab b)) d = g from HG.out.symm] at h2 ⊢
  obtain ⟨bg, hA2, hbg, hcg⟩ := id h2 (by omega)
  subst hA2
  have hgc := hcg 0 lg0
  have t1 := T1.out
  have t2 := T2.out
  clear hcg hbg
  go_wp2_with fail
  clear t1 hgc t2
  refine (rdiv_any (ab a) g A (some ⟨bg, 0, none⟩) cA c2 _ (by exact hx) (by exact h2) hbx hgl (by omega)).mono ?_
  rintro e w3 ⟨A4, c4, R4, e4, rfl, h4, q4, hb3⟩
  replace s0_0 := keepc hb3 s0_0 l0
  replace g0_0 := keepf hb3 g0_0 l0
  replace s0_1 := keepc hb3 s0_1 l0
  replace g0_1 := keepf hb3 g0_1 l0
  replace s1_0 := keepc hb3 s1_0 l1
  replace g1_0 := keepf hb3 g1_0 l1
  replace s1_1 := keepc hb3 s1_1 l1
  replace g1_1 := keepf hb3 g1_1 l1
  replace r0 := keepc hb3 r0 l2
  replace f0 := keepf hb3 f0 l2
  replace r1 := keepc hb3 r1 l2
  replace f1 := keepf hb3 f1 l2
  replace r2 := keepc hb3 r2 l2
  replace f2 := keepf hb3 f2 l2
  replace r3 := keepc hb3 r3 l2
  replace f3 := keepf hb3 f3 l2
  replace r4 := keepc hb3 r4 l2
  replace f4 := keepf hb3 f4 l2
  replace l0 := Nat.lt_of_lt_of_le l0 hb3.size
  replace l1 := Nat.lt_of_lt_of_le l1 hb3.size
  replace l2 := Nat.lt_of_lt_of_le l2 hb3.size
  replace hx := hx.to hb3
  replace hy := hy.to hb3
  replace hd := hd.to hb3
  replace h1 := h1.to hb3
  replace h2 := h2.to hb3
  replace HW := Lib.hid (hstep HW hb3)
  clear hb3
  go_wp2_with fail
  refine (rdiv_any (ab b) g B (some ⟨bg, 0, none⟩) cB c2 _ (by exact hy) (by exact h2) hby hgl (by omega)).mono ?_
  rintro e w4 ⟨A5, c5, R5, e5, rfl, h5, q5, hb4⟩
  replace s0_0 := keepc hb4 s0_0 l0
  replace g0_0 := keepf hb4 g0_0 l0
  replace s0_1 := keepc hb4 s0_1 l0
  replace g0_1 := keepf hb4 g0_1 l0
  replace s1_0 := keepc hb4 s1_0 l1
  replace g1_0 := keepf hb4 g1_0 l1
  replace s1_1 := keepc hb4 s1_1 l1
  replace g1_1 := keepf hb4 g1_1 l1
  replace r0 := keepc hb4 r0 l2
  replace f0 := keepf hb4 f0 l2
  replace r1 := keepc hb4 r1 l2
  replace f1 := keepf hb4 f1 l2
  replace r2 := keepc hb4 r2 l2
  replace f2 := keepf hb4 f2 l2
  replace r3 := keepc hb4 r3 l2
  replace f3 := keepf hb4 f3 l2
  replace r4 := keepc hb4 r4 l2
  replace f4 := keepf hb4 f4 l2
  replace l0 := Nat.lt_of_lt_of_le l0 hb4.size
  replace l1 := Nat.lt_of_lt_of_le l1 hb4.size
  replace l2 := Nat.lt_of_lt_of_le l2 hb4.size
  replace hx := hx.to hb4
  replace hy := hy.to hb4
  replace hd := hd.to hb4
  replace h1 := h1.to hb4
  replace h2 := h2.to hb4
  replace h4 := h4.to hb4
  replace HW := Lib.hid (hstep HW hb4)
  clear hb4
  go_wp2_with fail
  refine (rdiv_any d g D (some ⟨bg, 0, none⟩) cD c2 _ (by exact hd) (by exact h2) hbd hgl (by omega)).mono ?_
  rintro e w5 ⟨A6, c6, R6, e6, rfl, h6, q6, hb5⟩
  replace s0_0 := keepc hb5 s0_0 l0
  replace g0_0 := keepf hb5 g0_0 l0
  replace s0_1 := keepc hb5 s0_1 l0
  replace g0_1 := keepf hb5 g0_1 l0
  replace s1_0 := keepc hb5 s1_0 l1
  replace g1_0 := keepf hb5 g1_0 l1
  replace s1_1 := keepc hb5 s1_1 l1
  replace g1_1 := keepf hb5 g1_1 l1
  replace r0 := keepc hb5 r0 l2
  replace f0 := keepf hb5 f0 l2
  replace r1 := keepc hb5 r1 l2
  replace f1 := keepf hb5 f1 l2
  replace r2 := keepc hb5 r2 l2
  replace f2 := keepf hb5 f2 l2
  replace r3 := keepc hb5 r3 l2
  replace f3 := keepf hb5 f3 l2
  replace r4 := keepc hb5 r4 l2
  replace f4 := keepf hb5 f4 l2
  replace l0 := Nat.lt_of_lt_of_le l0 hb5.size
  replace l1 := Nat.lt_of_lt_of_le l1 hb5.size
  replace l2 := Nat.lt_of_lt_of_le l2 hb5.size
  replace hx := hx.to hb5
  replace hy := hy.to hb5
  replace hd := hd.to hb5
  replace h1 := h1.to hb5
  replace h2 := h2.to hb5
  replace h4 := h4.to hb5
  replace h5 := h5.to hb5
  replace HW := Lib.hid (hstep HW hb5)
  clear hb5
  go_wp2_with fail
  go_region_held3 (fun w' => w'.cell? ⟨w.heap.size, 0, none⟩ = some (.bool (sn (a))) ∧ w'.cell? ⟨w.heap.size + 1, 0, none⟩ = some (.bool (sn (b)))) (first | with_reducible exact ⟨s0_0, s1_0⟩ | with_reducible exact ⟨(keeps (keeps (keeps (keeps (keeps s0_0 n0) n0) n0) n0) n0), (keeps (keeps (keeps (keeps (keeps s1_0 n1) n1) n1) n1) n1)⟩ | exact ⟨s0_0, s1_0⟩) (first
    | (go_at_call_of 130 (Value.slice A4 (ln (ab a / g)) c4); refine (rsigned_z HZ.out.1 A4 c4 _ (by exact h4)).mono ?_; rintro e w6 ⟨Z1, cZ1, rfl, z1, hb6⟩; have hb6 := undrew hb6; replace s0_0 := keepc hb6 s0_0 l0; replace g0_0 := keepf hb6 g0_0 l0; replace s0_1 := keepc hb6 s0_1 l0; replace g0_1 := keepf hb6 g0_1 l0; replace s1_0 := keepc hb6 s1_0 l1; replace g1_0 := keepf hb6 g1_0 l1; replace s1_1 := keepc hb6 s1_1 l1; replace g1_1 := keepf hb6 g1_1 l1; replace r0 := keepc hb6 r0 l2; replace f0 := keepf hb6 f0 l2; replace r1 := keepc hb6 r1 l2; replace f1 := keepf hb6 f1 l2; replace r2 := keepc hb6 r2 l2; replace f2 := keepf hb6 f2 l2; replace r3 := keepc hb6 r3 l2; replace f3 := keepf hb6 f3 l2; replace r4 := keepc hb6 r4 l2; replace f4 := keepf hb6 f4 l2; replace l0 := Nat.lt_of_lt_of_le l0 hb6.size; replace l1 := Nat.lt_of_lt_of_le l1 hb6.size; replace l2 := Nat.lt_of_lt_of_le l2 hb6.size; replace hx := hx.to hb6; replace hy := hy.to hb6; replace hd := hd.to hb6; replace h1 := h1.to hb6; replace h2 := h2.to hb6; replace h4 := h4.to hb6; replace h5 := h5.to hb6; replace h6 := h6.to hb6; replace HW := Lib.hid (hstep HW hb6); clear hb6)
    | (go_at_call_of 130 (Value.slice A5 (ln (ab b / g)) c5); refine (rsigned_z HZ.out.2.1 A5 c5 _ (by exact h5)).mono ?_; rintro e w7 ⟨Z2, cZ2, rfl, z2, hb7⟩; replace s0_0 := keepc hb7 s0_0 l0; replace g0_0 := keepf hb7 g0_0 l0; replace s0_1 := keepc hb7 s0_1 l0; replace g0_1 := keepf hb7 g0_1 l0; replace s1_0 := keepc hb7 s1_0 l1; replace g1_0 := keepf hb7 g1_0 l1; replace s1_1 := keepc hb7 s1_1 l1; replace g1_1 := keepf hb7 g1_1 l1; replace r0 := keepc hb7 r0 l2; replace f0 := keepf hb7 f0 l2; replace r1 := keepc hb7 r1 l2; replace f1 := keepf hb7 f1 l2; replace r2 := keepc hb7 r2 l2; replace f2 := keepf hb7 f2 l2; replace r3 := keepc hb7 r3 l2; replace f3 := keepf hb7 f3 l2; replace r4 := keepc hb7 r4 l2; replace f4 := keepf hb7 f4 l2; replace l0 := Nat.lt_of_lt_of_le l0 hb7.size; replace l1 := Nat.lt_of_lt_of_le l1 hb7.size; replace l2 := Nat.lt_of_lt_of_le l2 hb7.size; replace hx := hx.to hb7; replace hy := hy.to hb7; replace hd := hd.to hb7; replace h1 := h1.to hb7; replace h2 := h2.to hb7; replace h4 := h4.to hb7; replace h5 := h5.to hb7; replace h6 := h6.to hb7; replace z1 := z1.to hb7; replace HW := Lib.hid (hstep HW hb7); clear hb7))
  go_wp2_with fail
  have hz := HZ.out.2.2
  refine bodyPost_ret (v := .agg #[.bool (sn (na q)), .slice Z1 (ln (ab (na q))) cZ1, .bool (sn (nb q)), .slice Z2 (ln (ab (nb q))) cZ2, .slice A6 (ln (d / g)) c6]) (by simp [results, Tryz.results107, go_sem, r0, r1, r2, r3, r4, f0, f1, f2, f3, f4]) rfl ?_
  rw [hz]
  exact retNumC_fin (q := q) (A1 := Z1) (A2 := Z2) (A3 := A6) HW ⟨z1, z2, by rw [← hz]; exact h6⟩ (by omega) r0
set_option maxHeartbeats 4000000 in
theorem rmake_many (a b : Int) (d : Nat) (A B D : Option Addr) (cA cB cD : Nat) (w : World) (hx : Nat32 w A (ab a)) (hy : Nat32 w B (ab b)) (hd : Nat32 w D d) (hbx : ln (ab a) ≤ 1099511627776) (hby : ln (ab b) ≤ 1099511627776) (hbd : ln d ≤ 1099511627776) (hd0 : d ≠ 0) (g : Nat) (hg : g = gg a b d) (hg1 : g ≠ 1) (hl : ln g ≠ 1) :
    Calls Tryz.prog 107 #[.agg #[.bool (sn (a)), .slice A (ln (ab (a))) cA], .agg #[.bool (sn (b)), .slice B (ln (ab (b))) cB], .slice D (ln d) cD] w (RetNumC w (fr a b d)) := by
  have g0 : 0 < g := by rw [hg]; exact gg_pos a b (by omega)
  have HG := Lib.hid hg
  have hgl : ln g ≤ 1099511627776 := Nat.le_trans (ln_mono (Nat.le_of_dvd (by omega) (by rw [hg]; exact (gg_dvd a b d).2.2))) hbd
  have lg0 := ln_pos (show g ≠ 0 by omega)
  have T1 : Hid (((ln g : Int) == 1) = false) := Lib.hid (by rw [beq_eq_false_iff_ne]; omega)
  have HZ := Lib.hid (make_forms (a := a) (b := b) hd0)
  rw [← hg] at HZ
  clear hg hg1 hl
  obtain ⟨q, hq⟩ : ∃ q, q = fr a b d := ⟨_, rfl⟩
  rw [← hq] at HZ ⊢
  clear hq
  go_enter Tryz.func107, Tryz.ntmps107
  go_wp2_with fail
  obtain ⟨W, hW⟩ : ∃ W : World, W = (((w.alloc (.cells #[.bool (sn (a)), .slice A (ln (ab (a))) cA] 64)).alloc (.cells #[.bool (sn (b)), .slice B (ln (ab (b))) cB] 64)).alloc (.cells #[.bool false, .slice none 0 0, .bool false, .slice none 0 0, .slice none 0 0] 66)) := ⟨_, rfl⟩
  have s0_0 : W.cell? ⟨w.heap.size, 0, none⟩ = some (.bool (sn (a))) := by subst hW; go_simp
  have g0_0 : W.frozen? ⟨w.heap.size, 0, none⟩ = false := by subst hW; go_simp
  have s0_1 : W.cell? ⟨w.heap.size, 1, none⟩ = some (.slice A (ln (ab (a))) cA) := by subst hW; go_simp
  have g0_1 : W.frozen? ⟨w.heap.size, 1, none⟩ = false := by subst hW; go_simp
  have s1_0 : W.cell? ⟨w.heap.size + 1, 0, none⟩ = some (.bool (sn (b))) := by subst hW; go_simp
  have g1_0 : W.frozen? ⟨w.heap.size + 1, 0, none⟩ = false := by subst hW; go_simp
  have s1_1 : W.cell? ⟨w.heap.size + 1, 1, none⟩ = some (.slice B (ln (ab (b))) cB) := by subst hW; go_simp
  have g1_1 : W.frozen? ⟨w.heap.size + 1, 1, none⟩ = false := by subst hW; go_simp
  have r0 : W.cell? ⟨w.heap.size + 1 + 1, 0, none⟩ = some (.bool false) := by subst hW; go_simp
  have f0 : W.frozen? ⟨w.heap.size + 1 + 1, 0, none⟩ = false := by subst hW; go_simp
  have r1 : W.cell? ⟨w.heap.size + 1 + 1, 1, none⟩ = some (.slice none 0 0) := by subst hW; go_simp
  have f1 : W.frozen? ⟨w.heap.size + 1 + 1, 1, none⟩ = false := by subst hW; go_simp
  have r2 : W.cell? ⟨w.heap.size + 1 + 1, 2, none⟩ = some (.bool false) := by subst hW; go_simp
  have f2 : W.frozen? ⟨w.heap.size + 1 + 1, 2, none⟩ = false := by subst hW; go_simp
  have r3 : W.cell? ⟨w.heap.size + 1 + 1, 3, none⟩ = some (.slice none 0 0) := by subst hW; go_simp
  have f3 : W.frozen? ⟨w.heap.size + 1 + 1, 3, none⟩ = false := by subst hW; go_simp
  have r4 : W.cell? ⟨w.heap.size + 1 + 1, 4, none⟩ = some (.slice none 0 0) := by subst hW; go_simp
  have f4 : W.frozen? ⟨w.heap.size + 1 + 1, 4, none⟩ = false := by subst hW; go_simp
  have HW : Below w.heap.size w W := by subst hW; exact ((((Below.refl w.heap.size w).alloc (Nat.le_refl _) _).alloc (by simp) _).alloc (by simp; omega) _)
  have l0 : w.heap.size < W.heap.size := by subst hW; simp <;> omega
  have l1 : w.heap.size + 1 < W.heap.size := by subst hW; simp <;> omega
  have l2 : w.heap.size + 1 + 1 < W.heap.size := by subst hW; simp
  have n0 : w.heap.size ≠ w.heap.size + 1 + 1 := by omega
  have n1 : w.heap.size + 1 ≠ w.heap.size + 1 + 1 := by omega
  replace hx := hx.to HW
  replace hy := hy.to HW
  replace hd := hd.to HW
  rw [← hW]
  clear hW
  replace HW := Lib.hid HW
  refine (rgcd_any (ab a) (ab b) A B cA cB _ (by exact hx) (by exact hy) hbx hby).mono ?_
  rintro e w1 ⟨A1, c1, rfl, h1, hb1⟩
  replace s0_0 := keepc hb1 s0_0 l0
  replace g0_0 := keepf hb1 g0_0 l0
  replace s0_1 := keepc hb1 s0_1 l0
  replace g0_1 := keepf hb1 g0_1 l0
  replace s1_0 := keepc hb1 s1_0 l1
  replace g1_0 := keepf hb1 g1_0 l1
  replace s1_1 := keepc hb1 s1_1 l1
  replace g1_1 := keepf hb1 g1_1 l1
  replace r0 := keepc hb1 r0 l2
  replace f0 := keepf hb1 f0 l2
  replace r1 := keepc hb1 r1 l2
  replace f1 := keepf hb1 f1 l2
  replace r2 := keepc hb1 r2 l2
  replace f2 := keepf hb1 f2 l2
  replace r3 := keepc hb1 r3 l2
  replace f3 := keepf hb1 f3 l2
  replace r4 := keepc hb1 r4 l2
  replace f4 := keepf hb1 f4 l2
  replace l0 := Nat.lt_of_lt_of_le l0 hb1.size
  replace l1 := Nat.lt_of_lt_of_le l1 hb1.size
  replace l2 := Nat.lt_of_lt_of_le l2 hb1.size
  replace hx := hx.to hb1
  replace hy := hy.to hb1
  replace hd := hd.to hb1
  replace HW := Lib.hid (hstep HW hb1)
  clear hb1
  go_wp2_with fail
  have hl1 : ln (Nat.gcd (ab a) (ab b)) ≤ 1099511627776 := gcd_ln hbx hby
  refine (rgcd_any (Nat.gcd (ab a) (ab b)) d A1 D c1 cD _ (by exact h1) (by exact hd) hl1 hbd).mono ?_
  rintro e w2 ⟨A2, c2, rfl, h2, hb2⟩
  replace s0_0 := keepc hb2 s0_0 l0
  replace g0_0 := keepf hb2 g0_0 l0
  replace s0_1 := keepc hb2 s0_1 l0
  replace g0_1 := keepf hb2 g0_1 l0
  replace s1_0 := keepc hb2 s1_0 l1
  replace g1_0 := keepf hb2 g1_0 l1
  replace s1_1 := keepc hb2 s1_1 l1
  replace g1_1 := keepf hb2 g1_1 l1
  replace r0 := keepc hb2 r0 l2
  replace f0 := keepf hb2 f0 l2
  replace r1 := keepc hb2 r1 l2
  replace f1 := keepf hb2 f1 l2
  replace r2 := keepc hb2 r2 l2
  replace f2 := keepf hb2 f2 l2
  replace r3 := keepc hb2 r3 l2
  replace f3 := keepf hb2 f3 l2
  replace r4 := keepc hb2 r4 l2
  replace f4 := keepf hb2 f4 l2
  replace l0 := Nat.lt_of_lt_of_le l0 hb2.size
  replace l1 := Nat.lt_of_lt_of_le l1 hb2.size
  replace l2 := Nat.lt_of_lt_of_le l2 hb2.size
  replace hx := hx.to hb2
  replace hy := hy.to hb2
  replace hd := hd.to hb2
  replace h1 := h1.to hb2
  replace HW := Lib.hid (hstep HW hb2)
  clear hb2
  rw [show Nat.gcd (Nat.gcd (ab a) (ab b)) d = g from HG.out.symm] at h2 ⊢
  obtain ⟨bg, hA2, hbg, hcg⟩ := id h2 (by omega)
  subst hA2
  have hgc := hcg 0 lg0
  have t1 := T1.out
  clear hcg hbg
  go_wp2_with fail
  clear t1 hgc
  refine (rdiv_any (ab a) g A (some ⟨bg, 0, none⟩) cA c2 _ (by exact hx) (by exact h2) hbx hgl (by omega)).mono ?_
  rintro e w3 ⟨A4, c4, R4, e4, rfl, h4, q4, hb3⟩
  replace s0_0 := keepc hb3 s0_0 l0
  replace g0_0 := keepf hb3 g0_0 l0
  replace s0_1 := keepc hb3 s0_1 l0
  replace g0_1 := keepf hb3 g0_1 l0
  replace s1_0 := keepc hb3 s1_0 l1
  replace g1_0 := keepf hb3 g1_0 l1
  replace s1_1 := keepc hb3 s1_1 l1
  replace g1_1 := keepf hb3 g1_1 l1
  replace r0 := keepc hb3 r0 l2
  replace f0 := keepf hb3 f0 l2
  replace r1 := keepc hb3 r1 l2
  replace f1 := keepf hb3 f1 l2
  replace r2 := keepc hb3 r2 l2
  replace f2 := keepf hb3 f2 l2
  replace r3 := keepc hb3 r3 l2
  replace f3 := keepf hb3 f3 l2
  replace r4 := keepc hb3 r4 l2
  replace f4 := keepf hb3 f4 l2
  replace l0 := Nat.lt_of_lt_of_le l0 hb3.size
  replace l1 := Nat.lt_of_lt_of_le l1 hb3.size
  replace l2 := Nat.lt_of_lt_of_le l2 hb3.size
  replace hx := hx.to hb3
  replace hy := hy.to hb3
  replace hd := hd.to hb3
  replace h1 := h1.to hb3
  replace h2 := h2.to hb3
  replace HW := Lib.hid (hstep HW hb3)
  clear hb3
  go_wp2_with fail
  refine (rdiv_any (ab b) g B (some ⟨bg, 0, none⟩) cB c2 _ (by exact hy) (by exact h2) hby hgl (by omega)).mono ?_
  rintro e w4 ⟨A5, c5, R5, e5, rfl, h5, q5, hb4⟩
  replace s0_0 := keepc hb4 s0_0 l0
  replace g0_0 := keepf hb4 g0_0 l0
  replace s0_1 := keepc hb4 s0_1 l0
  replace g0_1 := keepf hb4 g0_1 l0
  replace s1_0 := keepc hb4 s1_0 l1
  replace g1_0 := keepf hb4 g1_0 l1
  replace s1_1 := keepc hb4 s1_1 l1
  replace g1_1 := keepf hb4 g1_1 l1
  replace r0 := keepc hb4 r0 l2
  replace f0 := keepf hb4 f0 l2
  replace r1 := keepc hb4 r1 l2
  replace f1 := keepf hb4 f1 l2
  replace r2 := keepc hb4 r2 l2
  replace f2 := keepf hb4 f2 l2
  replace r3 := keepc hb4 r3 l2
  replace f3 := keepf hb4 f3 l2
  replace r4 := keepc hb4 r4 l2
  replace f4 := keepf hb4 f4 l2
  replace l0 := Nat.lt_of_lt_of_le l0 hb4.size
  replace l1 := Nat.lt_of_lt_of_le l1 hb4.size
  replace l2 := Nat.lt_of_lt_of_le l2 hb4.size
  replace hx := hx.to hb4
  replace hy := hy.to hb4
  replace hd := hd.to hb4
  replace h1 := h1.to hb4
  replace h2 := h2.to hb4
  replace h4 := h4.to hb4
  replace HW := Lib.hid (hstep HW hb4)
  clear hb4
  go_wp2_with fail
  refine (rdiv_any d g D (some ⟨bg, 0, none⟩) cD c2 _ (by exact hd) (by exact h2) hbd hgl (by omega)).mono ?_
  rintro e w5 ⟨A6, c6, R6, e6, rfl, h6, q6, hb5⟩
  replace s0_0 := keepc hb5 s0_0 l0
  replace g0_0 := keepf hb5 g0_0 l0
  replace s0_1 := keepc hb5 s0_1 l0
  replace g0_1 := keepf hb5 g0_1 l0
  replace s1_0 := keepc hb5 s1_0 l1
  replace g1_0 := keepf hb5 g1_0 l1
  replace s1_1 := keepc hb5 s1_1 l1
  replace g1_1 := keepf hb5 g1_1 l1
  replace r0 := keepc hb5 r0 l2
  replace f0 := keepf hb5 f0 l2
  replace r1 := keepc hb5 r1 l2
  replace f1 := keepf hb5 f1 l2
  replace r2 := keepc hb5 r2 l2
  replace f2 := keepf hb5 f2 l2
  replace r3 := keepc hb5 r3 l2
  replace f3 := keepf hb5 f3 l2
  replace r4 := keepc hb5 r4 l2
  replace f4 := keepf hb5 f4 l2
  replace l0 := Nat.lt_of_lt_of_le l0 hb5.size
  replace l1 := Nat.lt_of_lt_of_le l1 hb5.size
  replace l2 := Nat.lt_of_lt_of_le l2 hb5.size
  replace hx := hx.to hb5
  replace hy := hy.to hb5
  replace hd := hd.to hb5
  replace h1 := h1.to hb5
  replace h2 := h2.to hb5
  replace h4 := h4.to hb5
  replace h5 := h5.to hb5
  replace HW := Lib.hid (hstep HW hb5)
  clear hb5
  go_wp2_with fail
  go_region_held3 (fun w' => w'.cell? ⟨w.heap.size, 0, none⟩ = some (.bool (sn (a))) ∧ w'.cell? ⟨w.heap.size + 1, 0, none⟩ = some (.bool (sn (b)))) (first | with_reducible exact ⟨s0_0, s1_0⟩ | with_reducible exact ⟨(keeps (keeps (keeps (keeps (keeps s0_0 n0) n0) n0) n0) n0), (keeps (keeps (keeps (keeps (keeps s1_0 n1) n1) n1) n1) n1)⟩ | exact ⟨s0_0, s1_0⟩) (first
    | (go_at_call_of 130 (Value.slice A4 (ln (ab a / g)) c4); refine (rsigned_z HZ.out.1 A4 c4 _ (by exact h4)).mono ?_; rintro e w6 ⟨Z1, cZ1, rfl, z1, hb6⟩; have hb6 := undrew hb6; replace s0_0 := keepc hb6 s0_0 l0; replace g0_0 := keepf hb6 g0_0 l0; replace s0_1 := keepc hb6 s0_1 l0; replace g0_1 := keepf hb6 g0_1 l0; replace s1_0 := keepc hb6 s1_0 l1; replace g1_0 := keepf hb6 g1_0 l1; replace s1_1 := keepc hb6 s1_1 l1; replace g1_1 := keepf hb6 g1_1 l1; replace r0 := keepc hb6 r0 l2; replace f0 := keepf hb6 f0 l2; replace r1 := keepc hb6 r1 l2; replace f1 := keepf hb6 f1 l2; replace r2 := keepc hb6 r2 l2; replace f2 := keepf hb6 f2 l2; replace r3 := keepc hb6 r3 l2; replace f3 := keepf hb6 f3 l2; replace r4 := keepc hb6 r4 l2; replace f4 := keepf hb6 f4 l2; replace l0 := Nat.lt_of_lt_of_le l0 hb6.size; replace l1 := Nat.lt_of_lt_of_le l1 hb6.size; replace l2 := Nat.lt_of_lt_of_le l2 hb6.size; replace hx := hx.to hb6; replace hy := hy.to hb6; replace hd := hd.to hb6; replace h1 := h1.to hb6; replace h2 := h2.to hb6; replace h4 := h4.to hb6; replace h5 := h5.to hb6; replace h6 := h6.to hb6; replace HW := Lib.hid (hstep HW hb6); clear hb6)
    | (go_at_call_of 130 (Value.slice A5 (ln (ab b / g)) c5); refine (rsigned_z HZ.out.2.1 A5 c5 _ (by exact h5)).mono ?_; rintro e w7 ⟨Z2, cZ2, rfl, z2, hb7⟩; replace s0_0 := keepc hb7 s0_0 l0; replace g0_0 := keepf hb7 g0_0 l0; replace s0_1 := keepc hb7 s0_1 l0; replace g0_1 := keepf hb7 g0_1 l0; replace s1_0 := keepc hb7 s1_0 l1; replace g1_0 := keepf hb7 g1_0 l1; replace s1_1 := keepc hb7 s1_1 l1; replace g1_1 := keepf hb7 g1_1 l1; replace r0 := keepc hb7 r0 l2; replace f0 := keepf hb7 f0 l2; replace r1 := keepc hb7 r1 l2; replace f1 := keepf hb7 f1 l2; replace r2 := keepc hb7 r2 l2; replace f2 := keepf hb7 f2 l2; replace r3 := keepc hb7 r3 l2; replace f3 := keepf hb7 f3 l2; replace r4 := keepc hb7 r4 l2; replace f4 := keepf hb7 f4 l2; replace l0 := Nat.lt_of_lt_of_le l0 hb7.size; replace l1 := Nat.lt_of_lt_of_le l1 hb7.size; replace l2 := Nat.lt_of_lt_of_le l2 hb7.size; replace hx := hx.to hb7; replace hy := hy.to hb7; replace hd := hd.to hb7; replace h1 := h1.to hb7; replace h2 := h2.to hb7; replace h4 := h4.to hb7; replace h5 := h5.to hb7; replace h6 := h6.to hb7; replace z1 := z1.to hb7; replace HW := Lib.hid (hstep HW hb7); clear hb7))
  go_wp2_with fail
  have hz := HZ.out.2.2
  refine bodyPost_ret (v := .agg #[.bool (sn (na q)), .slice Z1 (ln (ab (na q))) cZ1, .bool (sn (nb q)), .slice Z2 (ln (ab (nb q))) cZ2, .slice A6 (ln (d / g)) c6]) (by simp [results, Tryz.results107, go_sem, r0, r1, r2, r3, r4, f0, f1, f2, f3, f4]) rfl ?_
  rw [hz]
  exact retNumC_fin (q := q) (A1 := Z1) (A2 := Z2) (A3 := A6) HW ⟨z1, z2, by rw [← hz]; exact h6⟩ (by omega) r0
/-- 'Make(a, b, d)', d not 0. -/
theorem rmake_any (a b : Int) (d : Nat) (A B D : Option Addr) (cA cB cD : Nat) (w : World) (hx : Nat32 w A (ab a)) (hy : Nat32 w B (ab b)) (hd : Nat32 w D d) (hbx : ln (ab a) ≤ 1099511627776) (hby : ln (ab b) ≤ 1099511627776) (hbd : ln d ≤ 1099511627776) (hd0 : d ≠ 0) :
    Calls Tryz.prog 107 #[.agg #[.bool (sn (a)), .slice A (ln (ab (a))) cA], .agg #[.bool (sn (b)), .slice B (ln (ab (b))) cB], .slice D (ln d) cD] w (RetNumC w (fr a b d)) := by
  by_cases hg1 : gg a b d = 1
  · exact rmake_one a b d A B D cA cB cD w hx hy hd hbx hby hbd hd0 _ rfl hg1
  · by_cases hl : ln (gg a b d) = 1
    · exact rmake_few a b d A B D cA cB cD w hx hy hd hbx hby hbd hd0 _ rfl hg1 hl
    · exact rmake_many a b d A B D cA cB cD w hx hy hd hbx hby hbd hd0 _ rfl hg1 hl
end Go.Proofs.YtdpjknjlhchmcaaGreat

namespace Go.Proofs.YtdpjknjlhchmcaaGreat
open Go.RowKit Pl
set_option linter.unusedVariables false
set_option linter.unusedSimpArgs false
/-- A call of the reference hands back a number and an error's code. -/
def RetNumCE (w : World) (k : Int) (q : Cx) (e : Ending) (w' : World) : Prop := ∃ A1 A2 A3 c1 c2 c3, e = .returned (.tuple #[.agg #[.bool (sn (na q)), .slice A1 (ln (ab (na q))) c1, .bool (sn (nb q)), .slice A2 (ln (ab (nb q))) c2, .slice A3 (ln (nd q)) c3], .int .i64 k]) ∧ Num3C w' A1 A2 A3 q ∧ Below w.heap.size w w'
theorem retNumCE_fin {w W : World} {q : Cx} {A1 A2 A3 : Option Addr} {R d1 d2 d3 : Nat} {c : Bool} {k : Int} (hB : Hid (Below w.heap.size w W)) (h1 : Num3C W A1 A2 A3 q) (hR : w.heap.size ≤ R) (r0 : W.cell? ⟨R, 0, none⟩ = some (.bool c)) :
    RetNumCE w k q (.returned (.tuple #[.agg #[.bool (sn (na q)), .slice A1 (ln (ab (na q))) d1, .bool (sn (nb q)), .slice A2 (ln (ab (nb q))) d2, .slice A3 (ln (nd q)) d3], .int .i64 k]))
      (((((W.setCell ⟨R, 0, none⟩ (.bool (sn (na q)))).setCell ⟨R, 1, none⟩ (.slice A1 (ln (ab (na q))) d1)).setCell ⟨R, 2, none⟩ (.bool (sn (nb q)))).setCell ⟨R, 3, none⟩ (.slice A2 (ln (ab (nb q))) d2)).setCell ⟨R, 4, none⟩ (.slice A3 (ln (nd q)) d3)) := by
  obtain ⟨B1, B2, B3, e1, e2, e3, e, h⟩ := retNumC_fin (A1 := A1) (A2 := A2) (A3 := A3) (d1 := d1) (d2 := d2) (d3 := d3) hB h1 hR r0
  exact ⟨B1, B2, B3, e1, e2, e3, ret_and e, h⟩
set_option maxHeartbeats 4000000 in
theorem rwhole_any (n : Int) (w : World) (h1 : -9223372036854775808 ≤ n) (h2 : n ≤ 9223372036854775807) :
    Calls Tryz.prog 69 #[.int .i64 n] w (RetNumC w (Cx.ofInt n)) := by
  have B1 := Lib.hid h1
  have B2 := Lib.hid h2
  clear h1 h2
  have E := Lib.hid (ofInt_form n)
  go_enter Tryz.func69, Tryz.ntmps69
  go_wp2_with fail
  obtain ⟨W, hW⟩ : ∃ W : World, W = (w.alloc (.cells #[.bool false, .slice none 0 0, .bool false, .slice none 0 0, .slice none 0 0] 66)) := ⟨_, rfl⟩
  have r0 : W.cell? ⟨w.heap.size, 0, none⟩ = some (.bool false) := by subst hW; go_simp
  have f0 : W.frozen? ⟨w.heap.size, 0, none⟩ = false := by subst hW; go_simp
  have r1 : W.cell? ⟨w.heap.size, 1, none⟩ = some (.slice none 0 0) := by subst hW; go_simp
  have f1 : W.frozen? ⟨w.heap.size, 1, none⟩ = false := by subst hW; go_simp
  have r2 : W.cell? ⟨w.heap.size, 2, none⟩ = some (.bool false) := by subst hW; go_simp
  have f2 : W.frozen? ⟨w.heap.size, 2, none⟩ = false := by subst hW; go_simp
  have r3 : W.cell? ⟨w.heap.size, 3, none⟩ = some (.slice none 0 0) := by subst hW; go_simp
  have f3 : W.frozen? ⟨w.heap.size, 3, none⟩ = false := by subst hW; go_simp
  have r4 : W.cell? ⟨w.heap.size, 4, none⟩ = some (.slice none 0 0) := by subst hW; go_simp
  have f4 : W.frozen? ⟨w.heap.size, 4, none⟩ = false := by subst hW; go_simp
  have HW : Below w.heap.size w W := by subst hW; exact ((Below.refl w.heap.size w).alloc (Nat.le_refl _) _)
  have l0 : w.heap.size < W.heap.size := by subst hW; simp
  rw [← hW]
  clear hW
  replace HW := Lib.hid HW
  refine (rintOf_any n _ B1.out B2.out).mono ?_
  rintro e w1 ⟨A1, c1, rfl, h1, hb1⟩
  replace r0 := keepc hb1 r0 l0
  replace f0 := keepf hb1 f0 l0
  replace r1 := keepc hb1 r1 l0
  replace f1 := keepf hb1 f1 l0
  replace r2 := keepc hb1 r2 l0
  replace f2 := keepf hb1 f2 l0
  replace r3 := keepc hb1 r3 l0
  replace f3 := keepf hb1 f3 l0
  replace r4 := keepc hb1 r4 l0
  replace f4 := keepf hb1 f4 l0
  replace l0 := Nat.lt_of_lt_of_le l0 hb1.size
  replace HW := Lib.hid (hstep HW hb1)
  clear hb1
  go_wp2_with fail
  obtain ⟨X, hX⟩ : ∃ X : World, X = (((((w1.setCell ⟨w.heap.size, 0, none⟩ (.bool (sn n))).setCell ⟨w.heap.size, 1, none⟩ (.slice A1 (ln (ab n)) c1)).setCell ⟨w.heap.size, 2, none⟩ (.bool false)).setCell ⟨w.heap.size, 3, none⟩ (.slice none 0 0)).setCell ⟨w.heap.size, 4, none⟩ (.slice (some ⟨w1.heap.size, 0, none⟩) 1 1)) := ⟨_, rfl⟩
  rw [← hX]
  have z0 : X.heap.size = w1.heap.size := by rw [hX]; simp [World.setCell]
  have nb : ∀ (b : Bool) k m, Value.bool b ≠ .int k m := by intro b k m e; cases e
  have ns : ∀ (a : Option Addr) (n c : Nat) k m, Value.slice a n c ≠ .int k m := by intro a n c k m e; cases e
  have y0 : X.cell? ⟨w.heap.size, 0, none⟩ = some (.bool (sn n)) := by rw [hX]; exact (keepo (R := w.heap.size) (j := 4) (u := .slice (some ⟨w1.heap.size, 0, none⟩) 1 1) (keepo (R := w.heap.size) (j := 3) (u := .slice none 0 0) (keepo (R := w.heap.size) (j := 2) (u := .bool false) (keepo (R := w.heap.size) (j := 1) (u := .slice A1 (ln (ab n)) c1) (cell_self (u := .bool (sn n)) r0) (by simp)) (by simp)) (by simp)) (by simp))
  have v0 : X.frozen? ⟨w.heap.size, 0, none⟩ = false := by rw [hX]; exact (keepof (R := w.heap.size) (j := 4) (u := .slice (some ⟨w1.heap.size, 0, none⟩) 1 1) (keepof (R := w.heap.size) (j := 3) (u := .slice none 0 0) (keepof (R := w.heap.size) (j := 2) (u := .bool false) (keepof (R := w.heap.size) (j := 1) (u := .slice A1 (ln (ab n)) c1) (keepof (R := w.heap.size) (j := 0) (u := .bool (sn n)) f0)))))
  have y1 : X.cell? ⟨w.heap.size, 1, none⟩ = some (.slice A1 (ln (ab n)) c1) := by rw [hX]; exact (keepo (R := w.heap.size) (j := 4) (u := .slice (some ⟨w1.heap.size, 0, none⟩) 1 1) (keepo (R := w.heap.size) (j := 3) (u := .slice none 0 0) (keepo (R := w.heap.size) (j := 2) (u := .bool false) (cell_self (u := .slice A1 (ln (ab n)) c1) (keepo (R := w.heap.size) (j := 0) (u := .bool (sn n)) r1 (by simp))) (by simp)) (by simp)) (by simp))
  have v1 : X.frozen? ⟨w.heap.size, 1, none⟩ = false := by rw [hX]; exact (keepof (R := w.heap.size) (j := 4) (u := .slice (some ⟨w1.heap.size, 0, none⟩) 1 1) (keepof (R := w.heap.size) (j := 3) (u := .slice none 0 0) (keepof (R := w.heap.size) (j := 2) (u := .bool false) (keepof (R := w.heap.size) (j := 1) (u := .slice A1 (ln (ab n)) c1) (keepof (R := w.heap.size) (j := 0) (u := .bool (sn n)) f1)))))
  have y2 : X.cell? ⟨w.heap.size, 2, none⟩ = some (.bool false) := by rw [hX]; exact (keepo (R := w.heap.size) (j := 4) (u := .slice (some ⟨w1.heap.size, 0, none⟩) 1 1) (keepo (R := w.heap.size) (j := 3) (u := .slice none 0 0) (cell_self (u := .bool false) (keepo (R := w.heap.size) (j := 1) (u := .slice A1 (ln (ab n)) c1) (keepo (R := w.heap.size) (j := 0) (u := .bool (sn n)) r2 (by simp)) (by simp))) (by simp)) (by simp))
  have v2 : X.frozen? ⟨w.heap.size, 2, none⟩ = false := by rw [hX]; exact (keepof (R := w.heap.size) (j := 4) (u := .slice (some ⟨w1.heap.size, 0, none⟩) 1 1) (keepof (R := w.heap.size) (j := 3) (u := .slice none 0 0) (keepof (R := w.heap.size) (j := 2) (u := .bool false) (keepof (R := w.heap.size) (j := 1) (u := .slice A1 (ln (ab n)) c1) (keepof (R := w.heap.size) (j := 0) (u := .bool (sn n)) f2)))))
  have y3 : X.cell? ⟨w.heap.size, 3, none⟩ = some (.slice none 0 0) := by rw [hX]; exact (keepo (R := w.heap.size) (j := 4) (u := .slice (some ⟨w1.heap.size, 0, none⟩) 1 1) (cell_self (u := .slice none 0 0) (keepo (R := w.heap.size) (j := 2) (u := .bool false) (keepo (R := w.heap.size) (j := 1) (u := .slice A1 (ln (ab n)) c1) (keepo (R := w.heap.size) (j := 0) (u := .bool (sn n)) r3 (by simp)) (by simp)) (by simp))) (by simp))
  have v3 : X.frozen? ⟨w.heap.size, 3, none⟩ = false := by rw [hX]; exact (keepof (R := w.heap.size) (j := 4) (u := .slice (some ⟨w1.heap.size, 0, none⟩) 1 1) (keepof (R := w.heap.size) (j := 3) (u := .slice none 0 0) (keepof (R := w.heap.size) (j := 2) (u := .bool false) (keepof (R := w.heap.size) (j := 1) (u := .slice A1 (ln (ab n)) c1) (keepof (R := w.heap.size) (j := 0) (u := .bool (sn n)) f3)))))
  have y4 : X.cell? ⟨w.heap.size, 4, none⟩ = some (.slice (some ⟨w1.heap.size, 0, none⟩) 1 1) := by rw [hX]; exact (cell_self (u := .slice (some ⟨w1.heap.size, 0, none⟩) 1 1) (keepo (R := w.heap.size) (j := 3) (u := .slice none 0 0) (keepo (R := w.heap.size) (j := 2) (u := .bool false) (keepo (R := w.heap.size) (j := 1) (u := .slice A1 (ln (ab n)) c1) (keepo (R := w.heap.size) (j := 0) (u := .bool (sn n)) r4 (by simp)) (by simp)) (by simp)) (by simp)))
  have v4 : X.frozen? ⟨w.heap.size, 4, none⟩ = false := by rw [hX]; exact (keepof (R := w.heap.size) (j := 4) (u := .slice (some ⟨w1.heap.size, 0, none⟩) 1 1) (keepof (R := w.heap.size) (j := 3) (u := .slice none 0 0) (keepof (R := w.heap.size) (j := 2) (u := .bool false) (keepof (R := w.heap.size) (j := 1) (u := .slice A1 (ln (ab n)) c1) (keepof (R := w.heap.size) (j := 0) (u := .bool (sn n)) f4)))))
  have hX1 : Nat32 X A1 (ab n) := by rw [hX]; exact (((((h1.setBox (i := 0) (u := .bool (sn n)) r0 (nb _)).setBox (i := 1) (u := .slice A1 (ln (ab n)) c1) (cell_self (u := .bool (sn n)) r0) (nb _)).setBox (i := 2) (u := .bool false) (keepo (R := w.heap.size) (j := 1) (u := .slice A1 (ln (ab n)) c1) (cell_self (u := .bool (sn n)) r0) (by simp)) (nb _)).setBox (i := 3) (u := .slice none 0 0) (keepo (R := w.heap.size) (j := 2) (u := .bool false) (keepo (R := w.heap.size) (j := 1) (u := .slice A1 (ln (ab n)) c1) (cell_self (u := .bool (sn n)) r0) (by simp)) (by simp)) (nb _)).setBox (i := 4) (u := .slice (some ⟨w1.heap.size, 0, none⟩) 1 1) (keepo (R := w.heap.size) (j := 3) (u := .slice none 0 0) (keepo (R := w.heap.size) (j := 2) (u := .bool false) (keepo (R := w.heap.size) (j := 1) (u := .slice A1 (ln (ab n)) c1) (cell_self (u := .bool (sn n)) r0) (by simp)) (by simp)) (by simp)) (nb _))
  have HX : Below w.heap.size w X := by rw [hX]; exact (((((HW.out.setCell (by exact Nat.le_refl _) _).setCell (by exact Nat.le_refl _) _).setCell (by exact Nat.le_refl _) _).setCell (by exact Nat.le_refl _) _).setCell (by exact Nat.le_refl _) _)
  clear hX r0 r1 r2 r3 r4 f0 f1 f2 f3 f4 h1 HW
  have l9 : w.heap.size < X.heap.size := by rw [z0]; exact l0
  rw [← z0]
  rw [← z0] at y4
  clear z0 l0
  obtain ⟨Y, hY⟩ : ∃ Y : World, Y = X.alloc (.cells #[.int .u32 1] 127) := ⟨_, rfl⟩
  rw [← hY]
  replace y0 := keepa (o := .cells #[.int .u32 1] 127) y0 l9
  rw [← hY] at y0
  replace v0 : Y.frozen? ⟨w.heap.size, 0, none⟩ = false := by rw [hY]; exact keepf ((Below.refl _ _).alloc (Nat.le_refl _) _) v0 l9
  replace y1 := keepa (o := .cells #[.int .u32 1] 127) y1 l9
  rw [← hY] at y1
  replace v1 : Y.frozen? ⟨w.heap.size, 1, none⟩ = false := by rw [hY]; exact keepf ((Below.refl _ _).alloc (Nat.le_refl _) _) v1 l9
  replace y2 := keepa (o := .cells #[.int .u32 1] 127) y2 l9
  rw [← hY] at y2
  replace v2 : Y.frozen? ⟨w.heap.size, 2, none⟩ = false := by rw [hY]; exact keepf ((Below.refl _ _).alloc (Nat.le_refl _) _) v2 l9
  replace y3 := keepa (o := .cells #[.int .u32 1] 127) y3 l9
  rw [← hY] at y3
  replace v3 : Y.frozen? ⟨w.heap.size, 3, none⟩ = false := by rw [hY]; exact keepf ((Below.refl _ _).alloc (Nat.le_refl _) _) v3 l9
  replace y4 := keepa (o := .cells #[.int .u32 1] 127) y4 l9
  rw [← hY] at y4
  replace v4 : Y.frozen? ⟨w.heap.size, 4, none⟩ = false := by rw [hY]; exact keepf ((Below.refl _ _).alloc (Nat.le_refl _) _) v4 l9
  have h1 : Nat32 Y A1 (ab n) := by rw [hY]; exact hX1.alloc _
  have h3 : Nat32 Y (some ⟨X.heap.size, 0, none⟩) 1 := by rw [hY]; exact nat1_new _ _
  have HY : Below w.heap.size w Y := by rw [hY]; exact HX.alloc (by omega) _
  clear hY hX1 HX
  refine bodyPost_ret (v := .agg #[.bool (sn n), .slice A1 (ln (ab n)) c1, .bool false, .slice none 0 0, .slice (some ⟨X.heap.size, 0, none⟩) 1 1]) (by simp [results, Tryz.results69, go_sem, y0, y1, y2, y3, y4, v0, v1, v2, v3, v4]) rfl ?_
  obtain ⟨e1, e2, e3⟩ := E.out
  refine ⟨A1, none, some ⟨X.heap.size, 0, none⟩, c1, 0, 1, ?_, ⟨by rw [e1]; exact h1, by rw [e2]; exact fun e => absurd rfl e, by rw [e3]; exact h3⟩, HY⟩
  rw [e1, e2, e3, sn_zero, show ab 0 = 0 from rfl, ln_zero, ln_one]
set_option maxHeartbeats 4000000 in
theorem rnew_pos (a b d : Int) (w : World) (ha : -9223372036854775808 ≤ a ∧ a ≤ 9223372036854775807) (hb : -9223372036854775808 ≤ b ∧ b ≤ 9223372036854775807) (hd : -9223372036854775808 ≤ d ∧ d ≤ 9223372036854775807) (h : 0 < d) :
    Calls Tryz.prog 96 #[.int .i64 a, .int .i64 b, .int .i64 d] w (RetNumCE w 0 (frz a b d)) := by
  have HA := Lib.hid ha
  have HB := Lib.hid hb
  have HD := Lib.hid hd
  clear ha hb hd
  rw [← frz_pos h]
  have t : (d == 0) = false := by rw [beq_eq_false_iff_ne]; omega
  have t1 : sn d = false := by unfold sn; rw [decide_eq_false_iff_not]; omega
  have HN : Hid (ab d ≠ 0) := Lib.hid (by unfold ab; omega)
  clear h
  go_enter Tryz.func96, Tryz.ntmps96
  go_wp2_with fail
  obtain ⟨W, hW⟩ : ∃ W : World, W = (w.alloc (.cells #[.bool false, .slice none 0 0, .bool false, .slice none 0 0, .slice none 0 0] 66)) := ⟨_, rfl⟩
  have r0 : W.cell? ⟨w.heap.size, 0, none⟩ = some (.bool false) := by subst hW; go_simp
  have f0 : W.frozen? ⟨w.heap.size, 0, none⟩ = false := by subst hW; go_simp
  have r1 : W.cell? ⟨w.heap.size, 1, none⟩ = some (.slice none 0 0) := by subst hW; go_simp
  have f1 : W.frozen? ⟨w.heap.size, 1, none⟩ = false := by subst hW; go_simp
  have r2 : W.cell? ⟨w.heap.size, 2, none⟩ = some (.bool false) := by subst hW; go_simp
  have f2 : W.frozen? ⟨w.heap.size, 2, none⟩ = false := by subst hW; go_simp
  have r3 : W.cell? ⟨w.heap.size, 3, none⟩ = some (.slice none 0 0) := by subst hW; go_simp
  have f3 : W.frozen? ⟨w.heap.size, 3, none⟩ = false := by subst hW; go_simp
  have r4 : W.cell? ⟨w.heap.size, 4, none⟩ = some (.slice none 0 0) := by subst hW; go_simp
  have f4 : W.frozen? ⟨w.heap.size, 4, none⟩ = false := by subst hW; go_simp
  have HW : Below w.heap.size w W := by subst hW; exact ((Below.refl w.heap.size w).alloc (Nat.le_refl _) _)
  have l0 : w.heap.size < W.heap.size := by subst hW; simp
  rw [← hW]
  clear hW
  replace HW := Lib.hid HW
  refine (rintOf_any d _ HD.out.1 HD.out.2).mono ?_
  rintro e w1 ⟨A3, c3, rfl, h3, hb1⟩
  replace r0 := keepc hb1 r0 l0
  replace f0 := keepf hb1 f0 l0
  replace r1 := keepc hb1 r1 l0
  replace f1 := keepf hb1 f1 l0
  replace r2 := keepc hb1 r2 l0
  replace f2 := keepf hb1 f2 l0
  replace r3 := keepc hb1 r3 l0
  replace f3 := keepf hb1 f3 l0
  replace r4 := keepc hb1 r4 l0
  replace f4 := keepf hb1 f4 l0
  replace l0 := Nat.lt_of_lt_of_le l0 hb1.size
  replace HW := Lib.hid (hstep HW hb1)
  clear hb1
  go_wp2_with fail
  obtain ⟨X, hX⟩ : ∃ X : World, X = w1.alloc (.cells #[.bool false, .slice A3 (ln (ab d)) c3] 64) := ⟨_, rfl⟩
  rw [← hX]
  have hb2 : Below w1.heap.size w1 X := by subst hX; exact (Below.refl _ _).alloc (Nat.le_refl _) _
  have u2_0 : X.cell? ⟨w1.heap.size, 0, none⟩ = some (.bool false) := by subst hX; go_simp
  have u2_1 : X.cell? ⟨w1.heap.size, 1, none⟩ = some (.slice A3 (ln (ab d)) c3) := by subst hX; go_simp
  have l202 : w1.heap.size < X.heap.size := by subst hX; simp
  have hp8 : w.heap.size < w1.heap.size := l0
  clear hX
  replace r0 := keepc hb2 r0 l0
  replace f0 := keepf hb2 f0 l0
  replace r1 := keepc hb2 r1 l0
  replace f1 := keepf hb2 f1 l0
  replace r2 := keepc hb2 r2 l0
  replace f2 := keepf hb2 f2 l0
  replace r3 := keepc hb2 r3 l0
  replace f3 := keepf hb2 f3 l0
  replace r4 := keepc hb2 r4 l0
  replace f4 := keepf hb2 f4 l0
  replace l0 := Nat.lt_of_lt_of_le l0 hb2.size
  replace h3 := h3.to hb2
  replace HW := Lib.hid (hstep HW hb2)
  clear hb2
  obtain ⟨p8, hp⟩ : ∃ p, p = w1.heap.size := ⟨_, rfl⟩
  rw [← hp] at u2_0 u2_1 l202 hp8 ⊢
  clear hp
  refine (rintOf_any a _ HA.out.1 HA.out.2).mono ?_
  rintro e w3 ⟨A1, c1, rfl, h1, hb3⟩
  replace u2_0 := keepc hb3 u2_0 l202
  replace u2_1 := keepc hb3 u2_1 l202
  replace r0 := keepc hb3 r0 l0
  replace f0 := keepf hb3 f0 l0
  replace r1 := keepc hb3 r1 l0
  replace f1 := keepf hb3 f1 l0
  replace r2 := keepc hb3 r2 l0
  replace f2 := keepf hb3 f2 l0
  replace r3 := keepc hb3 r3 l0
  replace f3 := keepf hb3 f3 l0
  replace r4 := keepc hb3 r4 l0
  replace f4 := keepf hb3 f4 l0
  replace l0 := Nat.lt_of_lt_of_le l0 hb3.size
  replace l202 := Nat.lt_of_lt_of_le l202 hb3.size
  replace h3 := h3.to hb3
  replace HW := Lib.hid (hstep HW hb3)
  clear hb3
  go_wp2_with fail
  refine (rintOf_any b _ HB.out.1 HB.out.2).mono ?_
  rintro e w4 ⟨A2, c2, rfl, h2, hb4⟩
  replace u2_0 := keepc hb4 u2_0 l202
  replace u2_1 := keepc hb4 u2_1 l202
  replace r0 := keepc hb4 r0 l0
  replace f0 := keepf hb4 f0 l0
  replace r1 := keepc hb4 r1 l0
  replace f1 := keepf hb4 f1 l0
  replace r2 := keepc hb4 r2 l0
  replace f2 := keepf hb4 f2 l0
  replace r3 := keepc hb4 r3 l0
  replace f3 := keepf hb4 f3 l0
  replace r4 := keepc hb4 r4 l0
  replace f4 := keepf hb4 f4 l0
  replace l0 := Nat.lt_of_lt_of_le l0 hb4.size
  replace l202 := Nat.lt_of_lt_of_le l202 hb4.size
  replace h3 := h3.to hb4
  replace h1 := h1.to hb4
  replace HW := Lib.hid (hstep HW hb4)
  clear hb4
  go_wp2_with fail
  refine (rmake_any a b (ab d) A1 A2 A3 c1 c2 c3 _ (by exact ((h1.alloc _).alloc _)) (by exact ((h2.alloc _).alloc _)) (by exact ((h3.alloc _).alloc _)) (by have := ab_small HA.out.1 HA.out.2; omega) (by have := ab_small HB.out.1 HB.out.2; omega) (by have := ab_small HD.out.1 HD.out.2; omega) HN.out).mono ?_
  rintro e w5 ⟨Z1, Z2, Z3, cZ1, cZ2, cZ3, rfl, h4, hb5⟩
  replace hb5 := unalloc (unalloc hb5)
  replace u2_0 := keepc hb5 u2_0 l202
  replace u2_1 := keepc hb5 u2_1 l202
  replace r0 := keepc hb5 r0 l0
  replace f0 := keepf hb5 f0 l0
  replace r1 := keepc hb5 r1 l0
  replace f1 := keepf hb5 f1 l0
  replace r2 := keepc hb5 r2 l0
  replace f2 := keepf hb5 f2 l0
  replace r3 := keepc hb5 r3 l0
  replace f3 := keepf hb5 f3 l0
  replace r4 := keepc hb5 r4 l0
  replace f4 := keepf hb5 f4 l0
  replace l0 := Nat.lt_of_lt_of_le l0 hb5.size
  replace l202 := Nat.lt_of_lt_of_le l202 hb5.size
  replace h3 := h3.to hb5
  replace h1 := h1.to hb5
  replace h2 := h2.to hb5
  replace HW := Lib.hid (hstep HW hb5)
  clear hb5
  go_wp2_with fail
  exact bodyPost_ret (v := .tuple #[.agg #[.bool (sn (na (fr a b (ab d)))), .slice Z1 (ln (ab (na (fr a b (ab d))))) cZ1, .bool (sn (nb (fr a b (ab d)))), .slice Z2 (ln (ab (nb (fr a b (ab d))))) cZ2, .slice Z3 (ln (nd (fr a b (ab d)))) cZ3], .int .i64 0]) (by simp [results, Tryz.results96, go_sem, r0, r1, r2, r3, r4, f0, f1, f2, f3, f4]) rfl (retNumCE_fin HW h4 (by omega) r0)
/-- Two local integers in the blocks p and p + 1 are set. -/
def set4c (w : World) (p : Nat) (z1 z2 : Int) (M1 M2 : Option Addr) (m1 m2 : Nat) : World :=
  (((w.setCell ⟨p, 0, none⟩ (.bool (sn z1))).setCell ⟨p, 1, none⟩ (.slice M1 (ln (ab z1)) m1)).setCell ⟨p + 1, 0, none⟩ (.bool (sn z2))).setCell ⟨p + 1, 1, none⟩ (.slice M2 (ln (ab z2)) m2)
theorem set4c_size (w : World) (p : Nat) (z1 z2 : Int) (M1 M2 : Option Addr) (m1 m2 : Nat) : (set4c w p z1 z2 M1 M2 m1 m2).heap.size = w.heap.size := by simp [set4c, World.setCell]
theorem set4c_cell {w : World} {p b i m1 m2 : Nat} {z1 z2 : Int} {M1 M2 : Option Addr} {v : Value} (h : w.cell? ⟨b, i, none⟩ = some v) (h1 : b ≠ p) (h2 : b ≠ p + 1) : (set4c w p z1 z2 M1 M2 m1 m2).cell? ⟨b, i, none⟩ = some v := keepo (keepo (keepo (keepo h (.inl h1)) (.inl h1)) (.inl h2)) (.inl h2)
theorem set4c_frozen {w : World} {p b i m1 m2 : Nat} {z1 z2 : Int} {M1 M2 : Option Addr} {v : Bool} (h : w.frozen? ⟨b, i, none⟩ = v) : (set4c w p z1 z2 M1 M2 m1 m2).frozen? ⟨b, i, none⟩ = v := keepof (keepof (keepof (keepof h)))
theorem set4c_below {w W : World} {B p m1 m2 : Nat} {z1 z2 : Int} {M1 M2 : Option Addr} (h : Below B w W) (hp : B ≤ p) : Below B w (set4c W p z1 z2 M1 M2 m1 m2) :=
  (((h.setCell (by exact hp) _).setCell (by exact hp) _).setCell (by show B ≤ p + 1; omega) _).setCell (by show B ≤ p + 1; omega) _
theorem set4c_nat {w : World} {p n m1 m2 : Nat} {z1 z2 : Int} {M1 M2 A : Option Addr} {c1 c2 : Bool} (h : Nat32 w A n) (u1 : w.cell? ⟨p, 0, none⟩ = some (.bool c1)) (u2 : w.cell? ⟨p + 1, 0, none⟩ = some (.bool c2)) : Nat32 (set4c w p z1 z2 M1 M2 m1 m2) A n := by
  have nb : ∀ (b : Bool) k m, Value.bool b ≠ .int k m := by intro b k m e; cases e
  have a1 := cell_self (u := .bool (sn z1)) u1
  have b1 : ((w.setCell ⟨p, 0, none⟩ (.bool (sn z1))).setCell ⟨p, 1, none⟩ (.slice M1 (ln (ab z1)) m1)).cell? ⟨p + 1, 0, none⟩ = some (.bool c2) := keepo (keepo u2 (.inl (by omega))) (.inl (by omega))
  exact (((h.setBox u1 (nb _)).setBox a1 (nb _)).setBox b1 (nb _)).setBox (cell_self b1) (nb _)
set_option maxHeartbeats 4000000 in
theorem rnew_neg (a b d : Int) (w : World) (ha : -9223372036854775808 ≤ a ∧ a ≤ 9223372036854775807) (hb : -9223372036854775808 ≤ b ∧ b ≤ 9223372036854775807) (hd : -9223372036854775808 ≤ d ∧ d ≤ 9223372036854775807) (h : d < 0) :
    Calls Tryz.prog 96 #[.int .i64 a, .int .i64 b, .int .i64 d] w (RetNumCE w 0 (frz a b d)) := by
  have HA := Lib.hid ha
  have HB := Lib.hid hb
  have HD := Lib.hid hd
  clear ha hb hd
  rw [← frz_neg h]
  have t : (d == 0) = false := by rw [beq_eq_false_iff_ne]; omega
  have t1 : sn d = true := by unfold sn; rw [decide_eq_true_eq]; omega
  have HN : Hid (ab d ≠ 0) := Lib.hid (by unfold ab; omega)
  clear h
  go_enter Tryz.func96, Tryz.ntmps96
  go_wp2_with fail
  obtain ⟨W, hW⟩ : ∃ W : World, W = (w.alloc (.cells #[.bool false, .slice none 0 0, .bool false, .slice none 0 0, .slice none 0 0] 66)) := ⟨_, rfl⟩
  have r0 : W.cell? ⟨w.heap.size, 0, none⟩ = some (.bool false) := by subst hW; go_simp
  have f0 : W.frozen? ⟨w.heap.size, 0, none⟩ = false := by subst hW; go_simp
  have r1 : W.cell? ⟨w.heap.size, 1, none⟩ = some (.slice none 0 0) := by subst hW; go_simp
  have f1 : W.frozen? ⟨w.heap.size, 1, none⟩ = false := by subst hW; go_simp
  have r2 : W.cell? ⟨w.heap.size, 2, none⟩ = some (.bool false) := by subst hW; go_simp
  have f2 : W.frozen? ⟨w.heap.size, 2, none⟩ = false := by subst hW; go_simp
  have r3 : W.cell? ⟨w.heap.size, 3, none⟩ = some (.slice none 0 0) := by subst hW; go_simp
  have f3 : W.frozen? ⟨w.heap.size, 3, none⟩ = false := by subst hW; go_simp
  have r4 : W.cell? ⟨w.heap.size, 4, none⟩ = some (.slice none 0 0) := by subst hW; go_simp
  have f4 : W.frozen? ⟨w.heap.size, 4, none⟩ = false := by subst hW; go_simp
  have HW : Below w.heap.size w W := by subst hW; exact ((Below.refl w.heap.size w).alloc (Nat.le_refl _) _)
  have l0 : w.heap.size < W.heap.size := by subst hW; simp
  rw [← hW]
  clear hW
  replace HW := Lib.hid HW
  refine (rintOf_any d _ HD.out.1 HD.out.2).mono ?_
  rintro e w1 ⟨A3, c3, rfl, h3, hb1⟩
  replace r0 := keepc hb1 r0 l0
  replace f0 := keepf hb1 f0 l0
  replace r1 := keepc hb1 r1 l0
  replace f1 := keepf hb1 f1 l0
  replace r2 := keepc hb1 r2 l0
  replace f2 := keepf hb1 f2 l0
  replace r3 := keepc hb1 r3 l0
  replace f3 := keepf hb1 f3 l0
  replace r4 := keepc hb1 r4 l0
  replace f4 := keepf hb1 f4 l0
  replace l0 := Nat.lt_of_lt_of_le l0 hb1.size
  replace HW := Lib.hid (hstep HW hb1)
  clear hb1
  go_wp2_with fail
  obtain ⟨X, hX⟩ : ∃ X : World, X = w1.alloc (.cells #[.bool true, .slice A3 (ln (ab d)) c3] 64) := ⟨_, rfl⟩
  rw [← hX]
  have hb2 : Below w1.heap.size w1 X := by subst hX; exact (Below.refl _ _).alloc (Nat.le_refl _) _
  have u2_0 : X.cell? ⟨w1.heap.size, 0, none⟩ = some (.bool true) := by subst hX; go_simp
  have u2_1 : X.cell? ⟨w1.heap.size, 1, none⟩ = some (.slice A3 (ln (ab d)) c3) := by subst hX; go_simp
  have l202 : w1.heap.size < X.heap.size := by subst hX; simp
  have hp8 : w.heap.size < w1.heap.size := l0
  clear hX
  replace r0 := keepc hb2 r0 l0
  replace f0 := keepf hb2 f0 l0
  replace r1 := keepc hb2 r1 l0
  replace f1 := keepf hb2 f1 l0
  replace r2 := keepc hb2 r2 l0
  replace f2 := keepf hb2 f2 l0
  replace r3 := keepc hb2 r3 l0
  replace f3 := keepf hb2 f3 l0
  replace r4 := keepc hb2 r4 l0
  replace f4 := keepf hb2 f4 l0
  replace l0 := Nat.lt_of_lt_of_le l0 hb2.size
  replace h3 := h3.to hb2
  replace HW := Lib.hid (hstep HW hb2)
  clear hb2
  obtain ⟨p8, hp⟩ : ∃ p, p = w1.heap.size := ⟨_, rfl⟩
  rw [← hp] at u2_0 u2_1 l202 hp8 ⊢
  clear hp
  refine (rintOf_any a _ HA.out.1 HA.out.2).mono ?_
  rintro e w3 ⟨A1, c1, rfl, h1, hb3⟩
  replace u2_0 := keepc hb3 u2_0 l202
  replace u2_1 := keepc hb3 u2_1 l202
  replace r0 := keepc hb3 r0 l0
  replace f0 := keepf hb3 f0 l0
  replace r1 := keepc hb3 r1 l0
  replace f1 := keepf hb3 f1 l0
  replace r2 := keepc hb3 r2 l0
  replace f2 := keepf hb3 f2 l0
  replace r3 := keepc hb3 r3 l0
  replace f3 := keepf hb3 f3 l0
  replace r4 := keepc hb3 r4 l0
  replace f4 := keepf hb3 f4 l0
  replace l0 := Nat.lt_of_lt_of_le l0 hb3.size
  replace l202 := Nat.lt_of_lt_of_le l202 hb3.size
  replace h3 := h3.to hb3
  replace HW := Lib.hid (hstep HW hb3)
  clear hb3
  go_wp2_with fail
  refine (rintOf_any b _ HB.out.1 HB.out.2).mono ?_
  rintro e w4 ⟨A2, c2, rfl, h2, hb4⟩
  replace u2_0 := keepc hb4 u2_0 l202
  replace u2_1 := keepc hb4 u2_1 l202
  replace r0 := keepc hb4 r0 l0
  replace f0 := keepf hb4 f0 l0
  replace r1 := keepc hb4 r1 l0
  replace f1 := keepf hb4 f1 l0
  replace r2 := keepc hb4 r2 l0
  replace f2 := keepf hb4 f2 l0
  replace r3 := keepc hb4 r3 l0
  replace f3 := keepf hb4 f3 l0
  replace r4 := keepc hb4 r4 l0
  replace f4 := keepf hb4 f4 l0
  replace l0 := Nat.lt_of_lt_of_le l0 hb4.size
  replace l202 := Nat.lt_of_lt_of_le l202 hb4.size
  replace h3 := h3.to hb4
  replace h1 := h1.to hb4
  replace HW := Lib.hid (hstep HW hb4)
  clear hb4
  go_upto_region 6 with fail
  obtain ⟨X, hX⟩ : ∃ X : World, X = ((w4.alloc (.cells #[.bool (sn a), .slice A1 (ln (ab a)) c1] 64)).alloc (.cells #[.bool (sn b), .slice A2 (ln (ab b)) c2] 64)) := ⟨_, rfl⟩
  rw [← hX]
  have hb5 : Below w4.heap.size w4 X := by subst hX; exact ((Below.refl _ _).alloc (Nat.le_refl _) _).alloc (by simp) _
  have u0_0 : X.cell? ⟨w4.heap.size, 0, none⟩ = some (.bool (sn a)) := by subst hX; go_simp
  have u0_1 : X.cell? ⟨w4.heap.size, 1, none⟩ = some (.slice A1 (ln (ab a)) c1) := by subst hX; go_simp
  have e0_0 : X.frozen? ⟨w4.heap.size, 0, none⟩ = false := by subst hX; go_simp
  have e0_1 : X.frozen? ⟨w4.heap.size, 1, none⟩ = false := by subst hX; go_simp
  have l200 : w4.heap.size < X.heap.size := by subst hX; simp <;> omega
  have u1_0 : X.cell? ⟨w4.heap.size + 1, 0, none⟩ = some (.bool (sn b)) := by subst hX; go_simp
  have u1_1 : X.cell? ⟨w4.heap.size + 1, 1, none⟩ = some (.slice A2 (ln (ab b)) c2) := by subst hX; go_simp
  have e1_0 : X.frozen? ⟨w4.heap.size + 1, 0, none⟩ = false := by subst hX; go_simp
  have e1_1 : X.frozen? ⟨w4.heap.size + 1, 1, none⟩ = false := by subst hX; go_simp
  have l201 : w4.heap.size + 1 < X.heap.size := by subst hX; simp <;> omega
  clear hX
  have hp : w.heap.size < w4.heap.size := l0
  have hp9 : p8 < w4.heap.size := l202
  replace u2_0 := keepc hb5 u2_0 l202
  replace u2_1 := keepc hb5 u2_1 l202
  replace r0 := keepc hb5 r0 l0
  replace f0 := keepf hb5 f0 l0
  replace r1 := keepc hb5 r1 l0
  replace f1 := keepf hb5 f1 l0
  replace r2 := keepc hb5 r2 l0
  replace f2 := keepf hb5 f2 l0
  replace r3 := keepc hb5 r3 l0
  replace f3 := keepf hb5 f3 l0
  replace r4 := keepc hb5 r4 l0
  replace f4 := keepf hb5 f4 l0
  replace l0 := Nat.lt_of_lt_of_le l0 hb5.size
  replace l202 := Nat.lt_of_lt_of_le l202 hb5.size
  replace h3 := h3.to hb5
  replace h1 := h1.to hb5
  replace h2 := h2.to hb5
  replace HW := Lib.hid (hstep HW hb5)
  clear hb5
  generalize w4.heap.size = p at *
  have d0 : p ≠ w.heap.size := by omega
  have dd0 : p ≠ p8 := by omega
  have d1 : p + 1 ≠ w.heap.size := by omega
  have dd1 : p + 1 ≠ p8 := by omega
  have d2 : p + 1 ≠ p := by omega
  go_region_with (first
    | (go_at_call_of 112 (Value.slice A1 (ln (ab a)) c1); refine (rintNeg_any a A1 c1 _ (by exact h1)).mono ?_; rintro e w6 ⟨M0, m0, rfl, q0, hb6⟩; have hb6 := undrew hb6; replace u2_0 := keepc hb6 u2_0 l202; replace u2_1 := keepc hb6 u2_1 l202; replace u0_0 := keepc hb6 u0_0 l200; replace u0_1 := keepc hb6 u0_1 l200; replace u1_0 := keepc hb6 u1_0 l201; replace u1_1 := keepc hb6 u1_1 l201; replace r0 := keepc hb6 r0 l0; replace f0 := keepf hb6 f0 l0; replace r1 := keepc hb6 r1 l0; replace f1 := keepf hb6 f1 l0; replace r2 := keepc hb6 r2 l0; replace f2 := keepf hb6 f2 l0; replace r3 := keepc hb6 r3 l0; replace f3 := keepf hb6 f3 l0; replace r4 := keepc hb6 r4 l0; replace f4 := keepf hb6 f4 l0; replace e0_0 := keepf hb6 e0_0 l200; replace e0_1 := keepf hb6 e0_1 l200; replace e1_0 := keepf hb6 e1_0 l201; replace e1_1 := keepf hb6 e1_1 l201; replace l0 := Nat.lt_of_lt_of_le l0 hb6.size; replace l200 := Nat.lt_of_lt_of_le l200 hb6.size; replace l201 := Nat.lt_of_lt_of_le l201 hb6.size; replace l202 := Nat.lt_of_lt_of_le l202 hb6.size; replace h3 := h3.to hb6; replace h1 := h1.to hb6; replace h2 := h2.to hb6; replace HW := Lib.hid (hstep HW hb6); clear hb6)
    | (go_at_call_of 112 (Value.slice A2 (ln (ab b)) c2); refine (rintNeg_any b A2 c2 _ (by exact h2)).mono ?_; rintro e w7 ⟨M1, m1, rfl, q1, hb7⟩; replace u2_0 := keepc hb7 u2_0 l202; replace u2_1 := keepc hb7 u2_1 l202; replace u0_0 := keepc hb7 u0_0 l200; replace u0_1 := keepc hb7 u0_1 l200; replace u1_0 := keepc hb7 u1_0 l201; replace u1_1 := keepc hb7 u1_1 l201; replace r0 := keepc hb7 r0 l0; replace f0 := keepf hb7 f0 l0; replace r1 := keepc hb7 r1 l0; replace f1 := keepf hb7 f1 l0; replace r2 := keepc hb7 r2 l0; replace f2 := keepf hb7 f2 l0; replace r3 := keepc hb7 r3 l0; replace f3 := keepf hb7 f3 l0; replace r4 := keepc hb7 r4 l0; replace f4 := keepf hb7 f4 l0; replace e0_0 := keepf hb7 e0_0 l200; replace e0_1 := keepf hb7 e0_1 l200; replace e1_0 := keepf hb7 e1_0 l201; replace e1_1 := keepf hb7 e1_1 l201; replace l0 := Nat.lt_of_lt_of_le l0 hb7.size; replace l200 := Nat.lt_of_lt_of_le l200 hb7.size; replace l201 := Nat.lt_of_lt_of_le l201 hb7.size; replace l202 := Nat.lt_of_lt_of_le l202 hb7.size; replace h3 := h3.to hb7; replace h1 := h1.to hb7; replace h2 := h2.to hb7; replace q0 := q0.to hb7; replace HW := Lib.hid (hstep HW hb7); clear hb7))
  all_goals
    go_wp2_with fail
    obtain ⟨X2, hX2⟩ : ∃ X : World, X = set4c w7 p (-a) (-b) M0 M1 m0 m1 := ⟨_, rfl⟩
    have hw : set4c w7 p (-a) (-b) M0 M1 m0 m1 = X2 := hX2.symm
    unfold set4c at hw
    rw [hw]
    clear hw
    replace q0 := set4c_nat (z1 := -a) (z2 := -b) (M1 := M0) (M2 := M1) (m1 := m0) (m2 := m1) q0 u0_0 u1_0
    rw [← hX2] at q0
    replace q1 := set4c_nat (z1 := -a) (z2 := -b) (M1 := M0) (M2 := M1) (m1 := m0) (m2 := m1) q1 u0_0 u1_0
    rw [← hX2] at q1
    replace h3 := set4c_nat (z1 := -a) (z2 := -b) (M1 := M0) (M2 := M1) (m1 := m0) (m2 := m1) h3 u0_0 u1_0
    rw [← hX2] at h3
    replace r0 := set4c_cell (z1 := -a) (z2 := -b) (M1 := M0) (M2 := M1) (m1 := m0) (m2 := m1) (p := p) r0 (by omega) (by omega)
    rw [← hX2] at r0
    replace f0 := set4c_frozen (z1 := -a) (z2 := -b) (M1 := M0) (M2 := M1) (m1 := m0) (m2 := m1) (p := p) f0
    rw [← hX2] at f0
    replace r1 := set4c_cell (z1 := -a) (z2 := -b) (M1 := M0) (M2 := M1) (m1 := m0) (m2 := m1) (p := p) r1 (by omega) (by omega)
    rw [← hX2] at r1
    replace f1 := set4c_frozen (z1 := -a) (z2 := -b) (M1 := M0) (M2 := M1) (m1 := m0) (m2 := m1) (p := p) f1
    rw [← hX2] at f1
    replace r2 := set4c_cell (z1 := -a) (z2 := -b) (M1 := M0) (M2 := M1) (m1 := m0) (m2 := m1) (p := p) r2 (by omega) (by omega)
    rw [← hX2] at r2
    replace f2 := set4c_frozen (z1 := -a) (z2 := -b) (M1 := M0) (M2 := M1) (m1 := m0) (m2 := m1) (p := p) f2
    rw [← hX2] at f2
    replace r3 := set4c_cell (z1 := -a) (z2 := -b) (M1 := M0) (M2 := M1) (m1 := m0) (m2 := m1) (p := p) r3 (by omega) (by omega)
    rw [← hX2] at r3
    replace f3 := set4c_frozen (z1 := -a) (z2 := -b) (M1 := M0) (M2 := M1) (m1 := m0) (m2 := m1) (p := p) f3
    rw [← hX2] at f3
    replace r4 := set4c_cell (z1 := -a) (z2 := -b) (M1 := M0) (M2 := M1) (m1 := m0) (m2 := m1) (p := p) r4 (by omega) (by omega)
    rw [← hX2] at r4
    replace f4 := set4c_frozen (z1 := -a) (z2 := -b) (M1 := M0) (M2 := M1) (m1 := m0) (m2 := m1) (p := p) f4
    rw [← hX2] at f4
    replace HW := Lib.hid (set4c_below (z1 := -a) (z2 := -b) (M1 := M0) (M2 := M1) (m1 := m0) (m2 := m1) HW.out (show w.heap.size ≤ p by omega))
    rw [← hX2] at HW
    have l0 : w.heap.size < X2.heap.size := by rw [hX2, set4c_size]; exact l0
    clear u0_0 u0_1 u1_0 u1_1 u2_0 u2_1 e0_0 e0_1 e1_0 e1_1 l200 l201 l202 hX2
    refine (rmake_any (-a) (-b) (ab d) M0 M1 A3 m0 m1 c3 _ (by exact q0) (by exact q1) (by exact h3) (by rw [ab_neg]; have := ab_small HA.out.1 HA.out.2; omega) (by rw [ab_neg]; have := ab_small HB.out.1 HB.out.2; omega) (by have := ab_small HD.out.1 HD.out.2; omega) HN.out).mono ?_
    rintro e w9 ⟨Z1, Z2, Z3, cZ1, cZ2, cZ3, rfl, h9, hb9⟩
    replace r0 := keepc hb9 r0 l0
    replace f0 := keepf hb9 f0 l0
    replace r1 := keepc hb9 r1 l0
    replace f1 := keepf hb9 f1 l0
    replace r2 := keepc hb9 r2 l0
    replace f2 := keepf hb9 f2 l0
    replace r3 := keepc hb9 r3 l0
    replace f3 := keepf hb9 f3 l0
    replace r4 := keepc hb9 r4 l0
    replace f4 := keepf hb9 f4 l0
    replace HW := Lib.hid (hstep HW hb9)
    go_wp2_with fail
    exact bodyPost_ret (v := .tuple #[.agg #[.bool (sn (na (fr (-a) (-b) (ab d)))), .slice Z1 (ln (ab (na (fr (-a) (-b) (ab d))))) cZ1, .bool (sn (nb (fr (-a) (-b) (ab d)))), .slice Z2 (ln (ab (nb (fr (-a) (-b) (ab d))))) cZ2, .slice Z3 (ln (nd (fr (-a) (-b) (ab d)))) cZ3], .int .i64 0]) (by simp [results, Tryz.results96, go_sem, r0, r1, r2, r3, r4, f0, f1, f2, f3, f4]) rfl (retNumCE_fin HW h9 (by omega) r0)
theorem rnew_any (a b d : Int) (w : World) (ha : -9223372036854775808 ≤ a ∧ a ≤ 9223372036854775807) (hb : -9223372036854775808 ≤ b ∧ b ≤ 9223372036854775807) (hd : -9223372036854775808 ≤ d ∧ d ≤ 9223372036854775807) (h : d ≠ 0) :
    Calls Tryz.prog 96 #[.int .i64 a, .int .i64 b, .int .i64 d] w (RetNumCE w 0 (frz a b d)) :=
  if h0 : 0 < d then rnew_pos a b d w ha hb hd h0 else rnew_neg a b d w ha hb hd (by omega)
end Go.Proofs.YtdpjknjlhchmcaaGreat

namespace Go.Proofs.YtdpjknjlhchmcaaGreat
open Go.RowKit Pl
set_option linter.unusedVariables false
set_option linter.unusedSimpArgs false
theorem half_forms {z : Int} {d : Nat} (hd : d ≠ 0) : ab z / Nat.gcd (ab z) d = ab (na (fr z 0 d)) ∧ d / Nat.gcd (ab z) d = nd (fr z 0 d) ∧ sn z = sn (na (fr z 0 d)) := by
  obtain ⟨f1, f2, f3, f4, f5⟩ := over_form (a := z) (b := 0) hd
  have e : gg z 0 d = Nat.gcd (ab z) d := by unfold gg ab; simp
  rw [e] at f2 f5
  exact ⟨f2.symm, f5.symm, f1.symm⟩
set_option maxHeartbeats 4000000 in
theorem rhalf_one1 (z : Int) (d : Nat) (A D : Option Addr) (cA cD : Nat) (w : World) (hx : Nat32 w A (ab z)) (hd : Nat32 w D d) (hbx : ln (ab z) ≤ 274877906944) (hbd : ln d ≤ 274877906944) (hd0 : d ≠ 0) (m : Nat) (hM : m = nd (fr z 0 d)) (hm : m = 1) (hs : sn z = true) :
    Calls Tryz.prog 116 #[.agg #[.bool (sn (z)), .slice A (ln (ab (z))) cA], .slice D (ln d) cD] w (RetStr w (partT (fr z 0 d))) := by
  obtain ⟨q, hq⟩ : ∃ q, q = fr z 0 d := ⟨_, rfl⟩
  have HF := half_forms (z := z) hd0
  have HZ : sz 274877906944 (fr z 0 d) := fr_sz hd0 hbx (by show ln 0 ≤ _; rw [ln_zero]; omega) hbd
  rw [← hq] at HF HZ hM ⊢
  rw [← hM] at HF
  have m0 : m ≠ 0 := by rw [hM]; exact nd_ne0 q
  have lm0 := ln_pos m0
  have zs := HZ.1
  have lm : ln m ≤ 274877906944 := by rw [hM]; exact HZ.2.2
  have z1 : (dec (ab (na q))).size ≤ 17592186044416 := by have := dec_size (ab (na q)); omega
  have z2 : (dec m).size ≤ 17592186044416 := by have := dec_size m; omega
  have g0 : Nat.gcd (ab z) d ≠ 0 := by intro e; exact hd0 (Nat.eq_zero_of_gcd_eq_zero_right e)
  have gl : ln (Nat.gcd (ab z) d) ≤ 1099511627776 := Nat.le_trans (ln_mono (Nat.le_of_dvd (Nat.pos_of_ne_zero hd0) (Nat.gcd_dvd_right _ _))) (Nat.le_trans hbd (by omega))
  have HX : Hid (ln (ab z) ≤ 1099511627776) := Lib.hid (Nat.le_trans hbx (by omega))
  have HD : Hid (ln d ≤ 1099511627776) := Lib.hid (Nat.le_trans hbd (by omega))
  have HL : Hid (ln (ab (na q)) ≤ 1099511627776 ∧ ln m ≤ 1099511627776) := Lib.hid ⟨Nat.le_trans zs (by omega), Nat.le_trans lm (by omega)⟩
  have HG0 := Lib.hid g0
  have HGL := Lib.hid gl
  have HM := Lib.hid hM
  have T1 : Hid (((ln m : Int) == 1) = true) := Lib.hid (one_len hm)
  have T2 : Hid (((wd m 0 : Int) == 1) = true) := Lib.hid (one_wd hm)
  have HU : Hid (un q = 0) := Lib.hid (un_one (by rw [← hM]; exact hm))
  have HE := Lib.hid HF
  clear hm HF hq HZ zs lm hM m0 hbx hbd hd0 g0 gl
  have HLM := Lib.hid lm0
  clear lm0
  have HS := Lib.hid hs
  clear hs
  go_enter Tryz.func116, Tryz.ntmps116
  go_wp2_with fail
  obtain ⟨W, hW⟩ : ∃ W : World, W = (w.alloc (.cells #[.bool (sn (z)), .slice A (ln (ab (z))) cA] 64)) := ⟨_, rfl⟩
  have s0_0 : W.cell? ⟨w.heap.size, 0, none⟩ = some (.bool (sn (z))) := by subst hW; go_simp
  have s0_1 : W.cell? ⟨w.heap.size, 1, none⟩ = some (.slice A (ln (ab (z))) cA) := by subst hW; go_simp
  have HW : Below w.heap.size w W := by subst hW; exact ((Below.refl w.heap.size w).alloc (Nat.le_refl _) _)
  have l0 : w.heap.size < W.heap.size := by subst hW; simp
  replace hx := hx.to HW
  replace hd := hd.to HW
  rw [← hW]
  clear hW
  replace HW := Lib.hid HW
  refine (rgcd_any (ab z) d A D cA cD _ (by exact hx) (by exact hd) HX.out HD.out).mono ?_
  rintro e w1 ⟨G, cG, rfl, hg, hb1⟩
  replace s0_0 := keepc hb1 s0_0 l0
  replace s0_1 := keepc hb1 s0_1 l0
  replace l0 := Nat.lt_of_lt_of_le l0 hb1.size
  replace hx := hx.to hb1
  replace hd := hd.to hb1
  replace HW := Lib.hid (hstep HW hb1)
  clear hb1
  go_wp2_with fail
  refine (rdiv_any (ab z) (Nat.gcd (ab z) d) A G cA cG _ (by exact hx) (by exact hg) HX.out HGL.out HG0.out).mono ?_
  rintro e w2 ⟨N, cN, R4, e4, rfl, hn, q4, hb2⟩
  replace s0_0 := keepc hb2 s0_0 l0
  replace s0_1 := keepc hb2 s0_1 l0
  replace l0 := Nat.lt_of_lt_of_le l0 hb2.size
  replace hx := hx.to hb2
  replace hd := hd.to hb2
  replace hg := hg.to hb2
  replace HW := Lib.hid (hstep HW hb2)
  clear hb2
  rw [HE.out.1] at hn ⊢
  clear q4
  go_wp2_with fail
  refine (rdiv_any d (Nat.gcd (ab z) d) D G cD cG _ (by exact hd) (by exact hg) HD.out HGL.out HG0.out).mono ?_
  rintro e w3 ⟨M, cM, R5, e5, rfl, hm, q5, hb3⟩
  replace s0_0 := keepc hb3 s0_0 l0
  replace s0_1 := keepc hb3 s0_1 l0
  replace l0 := Nat.lt_of_lt_of_le l0 hb3.size
  replace hx := hx.to hb3
  replace hd := hd.to hb3
  replace hg := hg.to hb3
  replace hn := hn.to hb3
  replace HW := Lib.hid (hstep HW hb3)
  clear hb3
  rw [HE.out.2.1] at hm ⊢
  clear q5
  go_wp2_with fail
  refine (rtext_any (ab (na q)) cN N _ (by exact hn) HL.out.1).mono ?_
  rintro e w4 ⟨rfl, hb4⟩
  replace s0_0 := keepc hb4 s0_0 l0
  replace s0_1 := keepc hb4 s0_1 l0
  replace l0 := Nat.lt_of_lt_of_le l0 hb4.size
  replace hx := hx.to hb4
  replace hd := hd.to hb4
  replace hg := hg.to hb4
  replace hn := hn.to hb4
  replace hm := hm.to hb4
  replace HW := Lib.hid (hstep HW hb4)
  clear hb4
  have k0 := s0_0
  rw [HS.out] at s0_0
  obtain ⟨bm, hM2, hbm, hcm⟩ := id hm (by have := HLM.out; intro e; rw [e, ln_zero] at this; omega)
  subst hM2
  have hmc := hcm 0 HLM.out
  have t1 := T1.out
  have t2 := T2.out
  clear hcm hbm
  go_wp2_with fail
  have hsn : sn (na q) = true := HE.out.2.2 ▸ HS.out
  have E : Hid (partT q = ⟨#[45]⟩ ++ dec (ab (na q))) := Lib.hid (by unfold partT sgT; simp [hsn, HU.out, ByteArray.append_assoc])
  rw [E.out]
  go_ret
  exact ⟨by first | rfl | simp [ByteArray.append_assoc], HW.out⟩
set_option maxHeartbeats 4000000 in
theorem rhalf_one0 (z : Int) (d : Nat) (A D : Option Addr) (cA cD : Nat) (w : World) (hx : Nat32 w A (ab z)) (hd : Nat32 w D d) (hbx : ln (ab z) ≤ 274877906944) (hbd : ln d ≤ 274877906944) (hd0 : d ≠ 0) (m : Nat) (hM : m = nd (fr z 0 d)) (hm : m = 1) (hs : sn z = false) :
    Calls Tryz.prog 116 #[.agg #[.bool (sn (z)), .slice A (ln (ab (z))) cA], .slice D (ln d) cD] w (RetStr w (partT (fr z 0 d))) := by
  obtain ⟨q, hq⟩ : ∃ q, q = fr z 0 d := ⟨_, rfl⟩
  have HF := half_forms (z := z) hd0
  have HZ : sz 274877906944 (fr z 0 d) := fr_sz hd0 hbx (by show ln 0 ≤ _; rw [ln_zero]; omega) hbd
  rw [← hq] at HF HZ hM ⊢
  rw [← hM] at HF
  have m0 : m ≠ 0 := by rw [hM]; exact nd_ne0 q
  have lm0 := ln_pos m0
  have zs := HZ.1
  have lm : ln m ≤ 274877906944 := by rw [hM]; exact HZ.2.2
  have z1 : (dec (ab (na q))).size ≤ 17592186044416 := by have := dec_size (ab (na q)); omega
  have z2 : (dec m).size ≤ 17592186044416 := by have := dec_size m; omega
  have g0 : Nat.gcd (ab z) d ≠ 0 := by intro e; exact hd0 (Nat.eq_zero_of_gcd_eq_zero_right e)
  have gl : ln (Nat.gcd (ab z) d) ≤ 1099511627776 := Nat.le_trans (ln_mono (Nat.le_of_dvd (Nat.pos_of_ne_zero hd0) (Nat.gcd_dvd_right _ _))) (Nat.le_trans hbd (by omega))
  have HX : Hid (ln (ab z) ≤ 1099511627776) := Lib.hid (Nat.le_trans hbx (by omega))
  have HD : Hid (ln d ≤ 1099511627776) := Lib.hid (Nat.le_trans hbd (by omega))
  have HL : Hid (ln (ab (na q)) ≤ 1099511627776 ∧ ln m ≤ 1099511627776) := Lib.hid ⟨Nat.le_trans zs (by omega), Nat.le_trans lm (by omega)⟩
  have HG0 := Lib.hid g0
  have HGL := Lib.hid gl
  have HM := Lib.hid hM
  have T1 : Hid (((ln m : Int) == 1) = true) := Lib.hid (one_len hm)
  have T2 : Hid (((wd m 0 : Int) == 1) = true) := Lib.hid (one_wd hm)
  have HU : Hid (un q = 0) := Lib.hid (un_one (by rw [← hM]; exact hm))
  have HE := Lib.hid HF
  clear hm HF hq HZ zs lm hM m0 hbx hbd hd0 g0 gl
  have HLM := Lib.hid lm0
  clear lm0
  have HS := Lib.hid hs
  clear hs
  go_enter Tryz.func116, Tryz.ntmps116
  go_wp2_with fail
  obtain ⟨W, hW⟩ : ∃ W : World, W = (w.alloc (.cells #[.bool (sn (z)), .slice A (ln (ab (z))) cA] 64)) := ⟨_, rfl⟩
  have s0_0 : W.cell? ⟨w.heap.size, 0, none⟩ = some (.bool (sn (z))) := by subst hW; go_simp
  have s0_1 : W.cell? ⟨w.heap.size, 1, none⟩ = some (.slice A (ln (ab (z))) cA) := by subst hW; go_simp
  have HW : Below w.heap.size w W := by subst hW; exact ((Below.refl w.heap.size w).alloc (Nat.le_refl _) _)
  have l0 : w.heap.size < W.heap.size := by subst hW; simp
  replace hx := hx.to HW
  replace hd := hd.to HW
  rw [← hW]
  clear hW
  replace HW := Lib.hid HW
  refine (rgcd_any (ab z) d A D cA cD _ (by exact hx) (by exact hd) HX.out HD.out).mono ?_
  rintro e w1 ⟨G, cG, rfl, hg, hb1⟩
  replace s0_0 := keepc hb1 s0_0 l0
  replace s0_1 := keepc hb1 s0_1 l0
  replace l0 := Nat.lt_of_lt_of_le l0 hb1.size
  replace hx := hx.to hb1
  replace hd := hd.to hb1
  replace HW := Lib.hid (hstep HW hb1)
  clear hb1
  go_wp2_with fail
  refine (rdiv_any (ab z) (Nat.gcd (ab z) d) A G cA cG _ (by exact hx) (by exact hg) HX.out HGL.out HG0.out).mono ?_
  rintro e w2 ⟨N, cN, R4, e4, rfl, hn, q4, hb2⟩
  replace s0_0 := keepc hb2 s0_0 l0
  replace s0_1 := keepc hb2 s0_1 l0
  replace l0 := Nat.lt_of_lt_of_le l0 hb2.size
  replace hx := hx.to hb2
  replace hd := hd.to hb2
  replace hg := hg.to hb2
  replace HW := Lib.hid (hstep HW hb2)
  clear hb2
  rw [HE.out.1] at hn ⊢
  clear q4
  go_wp2_with fail
  refine (rdiv_any d (Nat.gcd (ab z) d) D G cD cG _ (by exact hd) (by exact hg) HD.out HGL.out HG0.out).mono ?_
  rintro e w3 ⟨M, cM, R5, e5, rfl, hm, q5, hb3⟩
  replace s0_0 := keepc hb3 s0_0 l0
  replace s0_1 := keepc hb3 s0_1 l0
  replace l0 := Nat.lt_of_lt_of_le l0 hb3.size
  replace hx := hx.to hb3
  replace hd := hd.to hb3
  replace hg := hg.to hb3
  replace hn := hn.to hb3
  replace HW := Lib.hid (hstep HW hb3)
  clear hb3
  rw [HE.out.2.1] at hm ⊢
  clear q5
  go_wp2_with fail
  refine (rtext_any (ab (na q)) cN N _ (by exact hn) HL.out.1).mono ?_
  rintro e w4 ⟨rfl, hb4⟩
  replace s0_0 := keepc hb4 s0_0 l0
  replace s0_1 := keepc hb4 s0_1 l0
  replace l0 := Nat.lt_of_lt_of_le l0 hb4.size
  replace hx := hx.to hb4
  replace hd := hd.to hb4
  replace hg := hg.to hb4
  replace hn := hn.to hb4
  replace hm := hm.to hb4
  replace HW := Lib.hid (hstep HW hb4)
  clear hb4
  have k0 := s0_0
  rw [HS.out] at s0_0
  obtain ⟨bm, hM2, hbm, hcm⟩ := id hm (by have := HLM.out; intro e; rw [e, ln_zero] at this; omega)
  subst hM2
  have hmc := hcm 0 HLM.out
  have t1 := T1.out
  have t2 := T2.out
  clear hcm hbm
  go_wp2_with fail
  have hsn : sn (na q) = false := HE.out.2.2 ▸ HS.out
  have E : Hid (partT q = dec (ab (na q))) := Lib.hid (by unfold partT sgT; simp [hsn, HU.out, ByteArray.append_assoc])
  rw [E.out]
  go_ret
  exact ⟨by first | rfl | simp [ByteArray.append_assoc], HW.out⟩
set_option maxHeartbeats 4000000 in
theorem rhalf_few1 (z : Int) (d : Nat) (A D : Option Addr) (cA cD : Nat) (w : World) (hx : Nat32 w A (ab z)) (hd : Nat32 w D d) (hbx : ln (ab z) ≤ 274877906944) (hbd : ln d ≤ 274877906944) (hd0 : d ≠ 0) (m : Nat) (hM : m = nd (fr z 0 d)) (hm : m ≠ 1) (hl : ln m = 1) (hs : sn z = true) :
    Calls Tryz.prog 116 #[.agg #[.bool (sn (z)), .slice A (ln (ab (z))) cA], .slice D (ln d) cD] w (RetStr w (partT (fr z 0 d))) := by
  obtain ⟨q, hq⟩ : ∃ q, q = fr z 0 d := ⟨_, rfl⟩
  have HF := half_forms (z := z) hd0
  have HZ : sz 274877906944 (fr z 0 d) := fr_sz hd0 hbx (by show ln 0 ≤ _; rw [ln_zero]; omega) hbd
  rw [← hq] at HF HZ hM ⊢
  rw [← hM] at HF
  have m0 : m ≠ 0 := by rw [hM]; exact nd_ne0 q
  have lm0 := ln_pos m0
  have zs := HZ.1
  have lm : ln m ≤ 274877906944 := by rw [hM]; exact HZ.2.2
  have z1 : (dec (ab (na q))).size ≤ 17592186044416 := by have := dec_size (ab (na q)); omega
  have z2 : (dec m).size ≤ 17592186044416 := by have := dec_size m; omega
  have g0 : Nat.gcd (ab z) d ≠ 0 := by intro e; exact hd0 (Nat.eq_zero_of_gcd_eq_zero_right e)
  have gl : ln (Nat.gcd (ab z) d) ≤ 1099511627776 := Nat.le_trans (ln_mono (Nat.le_of_dvd (Nat.pos_of_ne_zero hd0) (Nat.gcd_dvd_right _ _))) (Nat.le_trans hbd (by omega))
  have HX : Hid (ln (ab z) ≤ 1099511627776) := Lib.hid (Nat.le_trans hbx (by omega))
  have HD : Hid (ln d ≤ 1099511627776) := Lib.hid (Nat.le_trans hbd (by omega))
  have HL : Hid (ln (ab (na q)) ≤ 1099511627776 ∧ ln m ≤ 1099511627776) := Lib.hid ⟨Nat.le_trans zs (by omega), Nat.le_trans lm (by omega)⟩
  have HG0 := Lib.hid g0
  have HGL := Lib.hid gl
  have HM := Lib.hid hM
  have T1 : Hid (((ln m : Int) == 1) = true) := Lib.hid (by rw [hl]; rfl)
  have T2 : Hid (((wd m 0 : Int) == 1) = false) := Lib.hid (few_wd hm hl)
  have HU : Hid (un q ≠ 0 ∧ un q = m) := Lib.hid (by have e := un_more (q := q) (by rw [← hM]; exact hm); rw [e, ← hM]; exact ⟨m0, rfl⟩)
  have HE := Lib.hid HF
  clear hm HF hq HZ zs lm hM m0 hbx hbd hd0 g0 gl hl
  have HLM := Lib.hid lm0
  clear lm0
  have HS := Lib.hid hs
  clear hs
  go_enter Tryz.func116, Tryz.ntmps116
  go_wp2_with fail
  obtain ⟨W, hW⟩ : ∃ W : World, W = (w.alloc (.cells #[.bool (sn (z)), .slice A (ln (ab (z))) cA] 64)) := ⟨_, rfl⟩
  have s0_0 : W.cell? ⟨w.heap.size, 0, none⟩ = some (.bool (sn (z))) := by subst hW; go_simp
  have s0_1 : W.cell? ⟨w.heap.size, 1, none⟩ = some (.slice A (ln (ab (z))) cA) := by subst hW; go_simp
  have HW : Below w.heap.size w W := by subst hW; exact ((Below.refl w.heap.size w).alloc (Nat.le_refl _) _)
  have l0 : w.heap.size < W.heap.size := by subst hW; simp
  replace hx := hx.to HW
  replace hd := hd.to HW
  rw [← hW]
  clear hW
  replace HW := Lib.hid HW
  refine (rgcd_any (ab z) d A D cA cD _ (by exact hx) (by exact hd) HX.out HD.out).mono ?_
  rintro e w1 ⟨G, cG, rfl, hg, hb1⟩
  replace s0_0 := keepc hb1 s0_0 l0
  replace s0_1 := keepc hb1 s0_1 l0
  replace l0 := Nat.lt_of_lt_of_le l0 hb1.size
  replace hx := hx.to hb1
  replace hd := hd.to hb1
  replace HW := Lib.hid (hstep HW hb1)
  clear hb1
  go_wp2_with fail
  refine (rdiv_any (ab z) (Nat.gcd (ab z) d) A G cA cG _ (by exact hx) (by exact hg) HX.out HGL.out HG0.out).mono ?_
  rintro e w2 ⟨N, cN, R4, e4, rfl, hn, q4, hb2⟩
  replace s0_0 := keepc hb2 s0_0 l0
  replace s0_1 := keepc hb2 s0_1 l0
  replace l0 := Nat.lt_of_lt_of_le l0 hb2.size
  replace hx := hx.to hb2
  replace hd := hd.to hb2
  replace hg := hg.to hb2
  replace HW := Lib.hid (hstep HW hb2)
  clear hb2
  rw [HE.out.1] at hn ⊢
  clear q4
  go_wp2_with fail
  refine (rdiv_any d (Nat.gcd (ab z) d) D G cD cG _ (by exact hd) (by exact hg) HD.out HGL.out HG0.out).mono ?_
  rintro e w3 ⟨M, cM, R5, e5, rfl, hm, q5, hb3⟩
  replace s0_0 := keepc hb3 s0_0 l0
  replace s0_1 := keepc hb3 s0_1 l0
  replace l0 := Nat.lt_of_lt_of_le l0 hb3.size
  replace hx := hx.to hb3
  replace hd := hd.to hb3
  replace hg := hg.to hb3
  replace hn := hn.to hb3
  replace HW := Lib.hid (hstep HW hb3)
  clear hb3
  rw [HE.out.2.1] at hm ⊢
  clear q5
  go_wp2_with fail
  refine (rtext_any (ab (na q)) cN N _ (by exact hn) HL.out.1).mono ?_
  rintro e w4 ⟨rfl, hb4⟩
  replace s0_0 := keepc hb4 s0_0 l0
  replace s0_1 := keepc hb4 s0_1 l0
  replace l0 := Nat.lt_of_lt_of_le l0 hb4.size
  replace hx := hx.to hb4
  replace hd := hd.to hb4
  replace hg := hg.to hb4
  replace hn := hn.to hb4
  replace hm := hm.to hb4
  replace HW := Lib.hid (hstep HW hb4)
  clear hb4
  have k0 := s0_0
  rw [HS.out] at s0_0
  obtain ⟨bm, hM2, hbm, hcm⟩ := id hm (by have := HLM.out; intro e; rw [e, ln_zero] at this; omega)
  subst hM2
  have hmc := hcm 0 HLM.out
  have t1 := T1.out
  have t2 := T2.out
  clear hcm hbm
  go_wp2_with fail
  clear t1 hmc s0_0 t2
  refine (rtext_any m cM (some ⟨bm, 0, none⟩) _ (by exact hm) HL.out.2).mono ?_
  rintro e w9 ⟨rfl, hb9⟩; replace HW := Lib.hid (hstep HW hb9); clear hb9
  go_wp2_with fail
  have hsn : sn (na q) = true := HE.out.2.2 ▸ HS.out
  have hm0 : m ≠ 0 := by have := HLM.out; intro e; rw [e, ln_zero] at this; omega
  have E : Hid (partT q = ⟨#[45]⟩ ++ dec (ab (na q)) ++ (⟨#[47]⟩ ++ dec m)) := Lib.hid (by unfold partT sgT; simp [hsn, HU.out.2, hm0, ByteArray.append_assoc])
  rw [E.out]
  go_ret
  exact ⟨by first | rfl | simp [ByteArray.append_assoc], HW.out⟩
set_option maxHeartbeats 4000000 in
theorem rhalf_few0 (z : Int) (d : Nat) (A D : Option Addr) (cA cD : Nat) (w : World) (hx : Nat32 w A (ab z)) (hd : Nat32 w D d) (hbx : ln (ab z) ≤ 274877906944) (hbd : ln d ≤ 274877906944) (hd0 : d ≠ 0) (m : Nat) (hM : m = nd (fr z 0 d)) (hm : m ≠ 1) (hl : ln m = 1) (hs : sn z = false) :
    Calls Tryz.prog 116 #[.agg #[.bool (sn (z)), .slice A (ln (ab (z))) cA], .slice D (ln d) cD] w (RetStr w (partT (fr z 0 d))) := by
  obtain ⟨q, hq⟩ : ∃ q, q = fr z 0 d := ⟨_, rfl⟩
  have HF := half_forms (z := z) hd0
  have HZ : sz 274877906944 (fr z 0 d) := fr_sz hd0 hbx (by show ln 0 ≤ _; rw [ln_zero]; omega) hbd
  rw [← hq] at HF HZ hM ⊢
  rw [← hM] at HF
  have m0 : m ≠ 0 := by rw [hM]; exact nd_ne0 q
  have lm0 := ln_pos m0
  have zs := HZ.1
  have lm : ln m ≤ 274877906944 := by rw [hM]; exact HZ.2.2
  have z1 : (dec (ab (na q))).size ≤ 17592186044416 := by have := dec_size (ab (na q)); omega
  have z2 : (dec m).size ≤ 17592186044416 := by have := dec_size m; omega
  have g0 : Nat.gcd (ab z) d ≠ 0 := by intro e; exact hd0 (Nat.eq_zero_of_gcd_eq_zero_right e)
  have gl : ln (Nat.gcd (ab z) d) ≤ 1099511627776 := Nat.le_trans (ln_mono (Nat.le_of_dvd (Nat.pos_of_ne_zero hd0) (Nat.gcd_dvd_right _ _))) (Nat.le_trans hbd (by omega))
  have HX : Hid (ln (ab z) ≤ 1099511627776) := Lib.hid (Nat.le_trans hbx (by omega))
  have HD : Hid (ln d ≤ 1099511627776) := Lib.hid (Nat.le_trans hbd (by omega))
  have HL : Hid (ln (ab (na q)) ≤ 1099511627776 ∧ ln m ≤ 1099511627776) := Lib.hid ⟨Nat.le_trans zs (by omega), Nat.le_trans lm (by omega)⟩
  have HG0 := Lib.hid g0
  have HGL := Lib.hid gl
  have HM := Lib.hid hM
  have T1 : Hid (((ln m : Int) == 1) = true) := Lib.hid (by rw [hl]; rfl)
  have T2 : Hid (((wd m 0 : Int) == 1) = false) := Lib.hid (few_wd hm hl)
  have HU : Hid (un q ≠ 0 ∧ un q = m) := Lib.hid (by have e := un_more (q := q) (by rw [← hM]; exact hm); rw [e, ← hM]; exact ⟨m0, rfl⟩)
  have HE := Lib.hid HF
  clear hm HF hq HZ zs lm hM m0 hbx hbd hd0 g0 gl hl
  have HLM := Lib.hid lm0
  clear lm0
  have HS := Lib.hid hs
  clear hs
  go_enter Tryz.func116, Tryz.ntmps116
  go_wp2_with fail
  obtain ⟨W, hW⟩ : ∃ W : World, W = (w.alloc (.cells #[.bool (sn (z)), .slice A (ln (ab (z))) cA] 64)) := ⟨_, rfl⟩
  have s0_0 : W.cell? ⟨w.heap.size, 0, none⟩ = some (.bool (sn (z))) := by subst hW; go_simp
  have s0_1 : W.cell? ⟨w.heap.size, 1, none⟩ = some (.slice A (ln (ab (z))) cA) := by subst hW; go_simp
  have HW : Below w.heap.size w W := by subst hW; exact ((Below.refl w.heap.size w).alloc (Nat.le_refl _) _)
  have l0 : w.heap.size < W.heap.size := by subst hW; simp
  replace hx := hx.to HW
  replace hd := hd.to HW
  rw [← hW]
  clear hW
  replace HW := Lib.hid HW
  refine (rgcd_any (ab z) d A D cA cD _ (by exact hx) (by exact hd) HX.out HD.out).mono ?_
  rintro e w1 ⟨G, cG, rfl, hg, hb1⟩
  replace s0_0 := keepc hb1 s0_0 l0
  replace s0_1 := keepc hb1 s0_1 l0
  replace l0 := Nat.lt_of_lt_of_le l0 hb1.size
  replace hx := hx.to hb1
  replace hd := hd.to hb1
  replace HW := Lib.hid (hstep HW hb1)
  clear hb1
  go_wp2_with fail
  refine (rdiv_any (ab z) (Nat.gcd (ab z) d) A G cA cG _ (by exact hx) (by exact hg) HX.out HGL.out HG0.out).mono ?_
  rintro e w2 ⟨N, cN, R4, e4, rfl, hn, q4, hb2⟩
  replace s0_0 := keepc hb2 s0_0 l0
  replace s0_1 := keepc hb2 s0_1 l0
  replace l0 := Nat.lt_of_lt_of_le l0 hb2.size
  replace hx := hx.to hb2
  replace hd := hd.to hb2
  replace hg := hg.to hb2
  replace HW := Lib.hid (hstep HW hb2)
  clear hb2
  rw [HE.out.1] at hn ⊢
  clear q4
  go_wp2_with fail
  refine (rdiv_any d (Nat.gcd (ab z) d) D G cD cG _ (by exact hd) (by exact hg) HD.out HGL.out HG0.out).mono ?_
  rintro e w3 ⟨M, cM, R5, e5, rfl, hm, q5, hb3⟩
  replace s0_0 := keepc hb3 s0_0 l0
  replace s0_1 := keepc hb3 s0_1 l0
  replace l0 := Nat.lt_of_lt_of_le l0 hb3.size
  replace hx := hx.to hb3
  replace hd := hd.to hb3
  replace hg := hg.to hb3
  replace hn := hn.to hb3
  replace HW := Lib.hid (hstep HW hb3)
  clear hb3
  rw [HE.out.2.1] at hm ⊢
  clear q5
  go_wp2_with fail
  refine (rtext_any (ab (na q)) cN N _ (by exact hn) HL.out.1).mono ?_
  rintro e w4 ⟨rfl, hb4⟩
  replace s0_0 := keepc hb4 s0_0 l0
  replace s0_1 := keepc hb4 s0_1 l0
  replace l0 := Nat.lt_of_lt_of_le l0 hb4.size
  replace hx := hx.to hb4
  replace hd := hd.to hb4
  replace hg := hg.to hb4
  replace hn := hn.to hb4
  replace hm := hm.to hb4
  replace HW := Lib.hid (hstep HW hb4)
  clear hb4
  have k0 := s0_0
  rw [HS.out] at s0_0
  obtain ⟨bm, hM2, hbm, hcm⟩ := id hm (by have := HLM.out; intro e; rw [e, ln_zero] at this; omega)
  subst hM2
  have hmc := hcm 0 HLM.out
  have t1 := T1.out
  have t2 := T2.out
  clear hcm hbm
  go_wp2_with fail
  clear t1 hmc s0_0 t2
  refine (rtext_any m cM (some ⟨bm, 0, none⟩) _ (by exact hm) HL.out.2).mono ?_
  rintro e w9 ⟨rfl, hb9⟩; replace HW := Lib.hid (hstep HW hb9); clear hb9
  go_wp2_with fail
  have hsn : sn (na q) = false := HE.out.2.2 ▸ HS.out
  have hm0 : m ≠ 0 := by have := HLM.out; intro e; rw [e, ln_zero] at this; omega
  have E : Hid (partT q = dec (ab (na q)) ++ (⟨#[47]⟩ ++ dec m)) := Lib.hid (by unfold partT sgT; simp [hsn, HU.out.2, hm0, ByteArray.append_assoc])
  rw [E.out]
  go_ret
  exact ⟨by first | rfl | simp [ByteArray.append_assoc], HW.out⟩
set_option maxHeartbeats 4000000 in
theorem rhalf_many1 (z : Int) (d : Nat) (A D : Option Addr) (cA cD : Nat) (w : World) (hx : Nat32 w A (ab z)) (hd : Nat32 w D d) (hbx : ln (ab z) ≤ 274877906944) (hbd : ln d ≤ 274877906944) (hd0 : d ≠ 0) (m : Nat) (hM : m = nd (fr z 0 d)) (hm : m ≠ 1) (hl : ln m ≠ 1) (hs : sn z = true) :
    Calls Tryz.prog 116 #[.agg #[.bool (sn (z)), .slice A (ln (ab (z))) cA], .slice D (ln d) cD] w (RetStr w (partT (fr z 0 d))) := by
  obtain ⟨q, hq⟩ : ∃ q, q = fr z 0 d := ⟨_, rfl⟩
  have HF := half_forms (z := z) hd0
  have HZ : sz 274877906944 (fr z 0 d) := fr_sz hd0 hbx (by show ln 0 ≤ _; rw [ln_zero]; omega) hbd
  rw [← hq] at HF HZ hM ⊢
  rw [← hM] at HF
  have m0 : m ≠ 0 := by rw [hM]; exact nd_ne0 q
  have lm0 := ln_pos m0
  have zs := HZ.1
  have lm : ln m ≤ 274877906944 := by rw [hM]; exact HZ.2.2
  have z1 : (dec (ab (na q))).size ≤ 17592186044416 := by have := dec_size (ab (na q)); omega
  have z2 : (dec m).size ≤ 17592186044416 := by have := dec_size m; omega
  have g0 : Nat.gcd (ab z) d ≠ 0 := by intro e; exact hd0 (Nat.eq_zero_of_gcd_eq_zero_right e)
  have gl : ln (Nat.gcd (ab z) d) ≤ 1099511627776 := Nat.le_trans (ln_mono (Nat.le_of_dvd (Nat.pos_of_ne_zero hd0) (Nat.gcd_dvd_right _ _))) (Nat.le_trans hbd (by omega))
  have HX : Hid (ln (ab z) ≤ 1099511627776) := Lib.hid (Nat.le_trans hbx (by omega))
  have HD : Hid (ln d ≤ 1099511627776) := Lib.hid (Nat.le_trans hbd (by omega))
  have HL : Hid (ln (ab (na q)) ≤ 1099511627776 ∧ ln m ≤ 1099511627776) := Lib.hid ⟨Nat.le_trans zs (by omega), Nat.le_trans lm (by omega)⟩
  have HG0 := Lib.hid g0
  have HGL := Lib.hid gl
  have HM := Lib.hid hM
  have T1 : Hid (((ln m : Int) == 1) = false) := Lib.hid (by rw [beq_eq_false_iff_ne]; omega)
  have HU : Hid (un q ≠ 0 ∧ un q = m) := Lib.hid (by have e := un_more (q := q) (by rw [← hM]; exact hm); rw [e, ← hM]; exact ⟨m0, rfl⟩)
  have HE := Lib.hid HF
  clear hm HF hq HZ zs lm hM m0 hbx hbd hd0 g0 gl hl
  have HLM := Lib.hid lm0
  clear lm0
  have HS := Lib.hid hs
  clear hs
  go_enter Tryz.func116, Tryz.ntmps116
  go_wp2_with fail
  obtain ⟨W, hW⟩ : ∃ W : World, W = (w.alloc (.cells #[.bool (sn (z)), .slice A (ln (ab (z))) cA] 64)) := ⟨_, rfl⟩
  have s0_0 : W.cell? ⟨w.heap.size, 0, none⟩ = some (.bool (sn (z))) := by subst hW; go_simp
  have s0_1 : W.cell? ⟨w.heap.size, 1, none⟩ = some (.slice A (ln (ab (z))) cA) := by subst hW; go_simp
  have HW : Below w.heap.size w W := by subst hW; exact ((Below.refl w.heap.size w).alloc (Nat.le_refl _) _)
  have l0 : w.heap.size < W.heap.size := by subst hW; simp
  replace hx := hx.to HW
  replace hd := hd.to HW
  rw [← hW]
  clear hW
  replace HW := Lib.hid HW
  refine (rgcd_any (ab z) d A D cA cD _ (by exact hx) (by exact hd) HX.out HD.out).mono ?_
  rintro e w1 ⟨G, cG, rfl, hg, hb1⟩
  replace s0_0 := keepc hb1 s0_0 l0
  replace s0_1 := keepc hb1 s0_1 l0
  replace l0 := Nat.lt_of_lt_of_le l0 hb1.size
  replace hx := hx.to hb1
  replace hd := hd.to hb1
  replace HW := Lib.hid (hstep HW hb1)
  clear hb1
  go_wp2_with fail
  refine (rdiv_any (ab z) (Nat.gcd (ab z) d) A G cA cG _ (by exact hx) (by exact hg) HX.out HGL.out HG0.out).mono ?_
  rintro e w2 ⟨N, cN, R4, e4, rfl, hn, q4, hb2⟩
  replace s0_0 := keepc hb2 s0_0 l0
  replace s0_1 := keepc hb2 s0_1 l0
  replace l0 := Nat.lt_of_lt_of_le l0 hb2.size
  replace hx := hx.to hb2
  replace hd := hd.to hb2
  replace hg := hg.to hb2
  replace HW := Lib.hid (hstep HW hb2)
  clear hb2
  rw [HE.out.1] at hn ⊢
  clear q4
  go_wp2_with fail
  refine (rdiv_any d (Nat.gcd (ab z) d) D G cD cG _ (by exact hd) (by exact hg) HD.out HGL.out HG0.out).mono ?_
  rintro e w3 ⟨M, cM, R5, e5, rfl, hm, q5, hb3⟩
  replace s0_0 := keepc hb3 s0_0 l0
  replace s0_1 := keepc hb3 s0_1 l0
  replace l0 := Nat.lt_of_lt_of_le l0 hb3.size
  replace hx := hx.to hb3
  replace hd := hd.to hb3
  replace hg := hg.to hb3
  replace hn := hn.to hb3
  replace HW := Lib.hid (hstep HW hb3)
  clear hb3
  rw [HE.out.2.1] at hm ⊢
  clear q5
  go_wp2_with fail
  refine (rtext_any (ab (na q)) cN N _ (by exact hn) HL.out.1).mono ?_
  rintro e w4 ⟨rfl, hb4⟩
  replace s0_0 := keepc hb4 s0_0 l0
  replace s0_1 := keepc hb4 s0_1 l0
  replace l0 := Nat.lt_of_lt_of_le l0 hb4.size
  replace hx := hx.to hb4
  replace hd := hd.to hb4
  replace hg := hg.to hb4
  replace hn := hn.to hb4
  replace hm := hm.to hb4
  replace HW := Lib.hid (hstep HW hb4)
  clear hb4
  have k0 := s0_0
  rw [HS.out] at s0_0
  obtain ⟨bm, hM2, hbm, hcm⟩ := id hm (by have := HLM.out; intro e; rw [e, ln_zero] at this; omega)
  subst hM2
  have hmc := hcm 0 HLM.out
  have t1 := T1.out
  clear hcm hbm
  go_wp2_with fail
  clear t1 hmc s0_0
  refine (rtext_any m cM (some ⟨bm, 0, none⟩) _ (by exact hm) HL.out.2).mono ?_
  rintro e w9 ⟨rfl, hb9⟩; replace HW := Lib.hid (hstep HW hb9); clear hb9
  go_wp2_with fail
  have hsn : sn (na q) = true := HE.out.2.2 ▸ HS.out
  have hm0 : m ≠ 0 := by have := HLM.out; intro e; rw [e, ln_zero] at this; omega
  have E : Hid (partT q = ⟨#[45]⟩ ++ dec (ab (na q)) ++ (⟨#[47]⟩ ++ dec m)) := Lib.hid (by unfold partT sgT; simp [hsn, HU.out.2, hm0, ByteArray.append_assoc])
  rw [E.out]
  go_ret
  exact ⟨by first | rfl | simp [ByteArray.append_assoc], HW.out⟩
set_option maxHeartbeats 4000000 in
theorem rhalf_many0 (z : Int) (d : Nat) (A D : Option Addr) (cA cD : Nat) (w : World) (hx : Nat32 w A (ab z)) (hd : Nat32 w D d) (hbx : ln (ab z) ≤ 274877906944) (hbd : ln d ≤ 274877906944) (hd0 : d ≠ 0) (m : Nat) (hM : m = nd (fr z 0 d)) (hm : m ≠ 1) (hl : ln m ≠ 1) (hs : sn z = false) :
    Calls Tryz.prog 116 #[.agg #[.bool (sn (z)), .slice A (ln (ab (z))) cA], .slice D (ln d) cD] w (RetStr w (partT (fr z 0 d))) := by
  obtain ⟨q, hq⟩ : ∃ q, q = fr z 0 d := ⟨_, rfl⟩
  have HF := half_forms (z := z) hd0
  have HZ : sz 274877906944 (fr z 0 d) := fr_sz hd0 hbx (by show ln 0 ≤ _; rw [ln_zero]; omega) hbd
  rw [← hq] at HF HZ hM ⊢
  rw [← hM] at HF
  have m0 : m ≠ 0 := by rw [hM]; exact nd_ne0 q
  have lm0 := ln_pos m0
  have zs := HZ.1
  have lm : ln m ≤ 274877906944 := by rw [hM]; exact HZ.2.2
  have z1 : (dec (ab (na q))).size ≤ 17592186044416 := by have := dec_size (ab (na q)); omega
  have z2 : (dec m).size ≤ 17592186044416 := by have := dec_size m; omega
  have g0 : Nat.gcd (ab z) d ≠ 0 := by intro e; exact hd0 (Nat.eq_zero_of_gcd_eq_zero_right e)
  have gl : ln (Nat.gcd (ab z) d) ≤ 1099511627776 := Nat.le_trans (ln_mono (Nat.le_of_dvd (Nat.pos_of_ne_zero hd0) (Nat.gcd_dvd_right _ _))) (Nat.le_trans hbd (by omega))
  have HX : Hid (ln (ab z) ≤ 1099511627776) := Lib.hid (Nat.le_trans hbx (by omega))
  have HD : Hid (ln d ≤ 1099511627776) := Lib.hid (Nat.le_trans hbd (by omega))
  have HL : Hid (ln (ab (na q)) ≤ 1099511627776 ∧ ln m ≤ 1099511627776) := Lib.hid ⟨Nat.le_trans zs (by omega), Nat.le_trans lm (by omega)⟩
  have HG0 := Lib.hid g0
  have HGL := Lib.hid gl
  have HM := Lib.hid hM
  have T1 : Hid (((ln m : Int) == 1) = false) := Lib.hid (by rw [beq_eq_false_iff_ne]; omega)
  have HU : Hid (un q ≠ 0 ∧ un q = m) := Lib.hid (by have e := un_more (q := q) (by rw [← hM]; exact hm); rw [e, ← hM]; exact ⟨m0, rfl⟩)
  have HE := Lib.hid HF
  clear hm HF hq HZ zs lm hM m0 hbx hbd hd0 g0 gl hl
  have HLM := Lib.hid lm0
  clear lm0
  have HS := Lib.hid hs
  clear hs
  go_enter Tryz.func116, Tryz.ntmps116
  go_wp2_with fail
  obtain ⟨W, hW⟩ : ∃ W : World, W = (w.alloc (.cells #[.bool (sn (z)), .slice A (ln (ab (z))) cA] 64)) := ⟨_, rfl⟩
  have s0_0 : W.cell? ⟨w.heap.size, 0, none⟩ = some (.bool (sn (z))) := by subst hW; go_simp
  have s0_1 : W.cell? ⟨w.heap.size, 1, none⟩ = some (.slice A (ln (ab (z))) cA) := by subst hW; go_simp
  have HW : Below w.heap.size w W := by subst hW; exact ((Below.refl w.heap.size w).alloc (Nat.le_refl _) _)
  have l0 : w.heap.size < W.heap.size := by subst hW; simp
  replace hx := hx.to HW
  replace hd := hd.to HW
  rw [← hW]
  clear hW
  replace HW := Lib.hid HW
  refine (rgcd_any (ab z) d A D cA cD _ (by exact hx) (by exact hd) HX.out HD.out).mono ?_
  rintro e w1 ⟨G, cG, rfl, hg, hb1⟩
  replace s0_0 := keepc hb1 s0_0 l0
  replace s0_1 := keepc hb1 s0_1 l0
  replace l0 := Nat.lt_of_lt_of_le l0 hb1.size
  replace hx := hx.to hb1
  replace hd := hd.to hb1
  replace HW := Lib.hid (hstep HW hb1)
  clear hb1
  go_wp2_with fail
  refine (rdiv_any (ab z) (Nat.gcd (ab z) d) A G cA cG _ (by exact hx) (by exact hg) HX.out HGL.out HG0.out).mono ?_
  rintro e w2 ⟨N, cN, R4, e4, rfl, hn, q4, hb2⟩
  replace s0_0 := keepc hb2 s0_0 l0
  replace s0_1 := keepc hb2 s0_1 l0
  replace l0 := Nat.lt_of_lt_of_le l0 hb2.size
  replace hx := hx.to hb2
  replace hd := hd.to hb2
  replace hg := hg.to hb2
  replace HW := Lib.hid (hstep HW hb2)
  clear hb2
  rw [HE.out.1] at hn ⊢
  clear q4
  go_wp2_with fail
  refine (rdiv_any d (Nat.gcd (ab z) d) D G cD cG _ (by exact hd) (by exact hg) HD.out HGL.out HG0.out).mono ?_
  rintro e w3 ⟨M, cM, R5, e5, rfl, hm, q5, hb3⟩
  replace s0_0 := keepc hb3 s0_0 l0
  replace s0_1 := keepc hb3 s0_1 l0
  replace l0 := Nat.lt_of_lt_of_le l0 hb3.size
  replace hx := hx.to hb3
  replace hd := hd.to hb3
  replace hg := hg.to hb3
  replace hn := hn.to hb3
  replace HW := Lib.hid (hstep HW hb3)
  clear hb3
  rw [HE.out.2.1] at hm ⊢
  clear q5
  go_wp2_with fail
  refine (rtext_any (ab (na q)) cN N _ (by exact hn) HL.out.1).mono ?_
  rintro e w4 ⟨rfl, hb4⟩
  replace s0_0 := keepc hb4 s0_0 l0
  replace s0_1 := keepc hb4 s0_1 l0
  replace l0 := Nat.lt_of_lt_of_le l0 hb4.size
  replace hx := hx.to hb4
  replace hd := hd.to hb4
  replace hg := hg.to hb4
  replace hn := hn.to hb4
  replace hm := hm.to hb4
  replace HW := Lib.hid (hstep HW hb4)
  clear hb4
  have k0 := s0_0
  rw [HS.out] at s0_0
  obtain ⟨bm, hM2, hbm, hcm⟩ := id hm (by have := HLM.out; intro e; rw [e, ln_zero] at this; omega)
  subst hM2
  have hmc := hcm 0 HLM.out
  have t1 := T1.out
  clear hcm hbm
  go_wp2_with fail
  clear t1 hmc s0_0
  refine (rtext_any m cM (some ⟨bm, 0, none⟩) _ (by exact hm) HL.out.2).mono ?_
  rintro e w9 ⟨rfl, hb9⟩; replace HW := Lib.hid (hstep HW hb9); clear hb9
  go_wp2_with fail
  have hsn : sn (na q) = false := HE.out.2.2 ▸ HS.out
  have hm0 : m ≠ 0 := by have := HLM.out; intro e; rw [e, ln_zero] at this; omega
  have E : Hid (partT q = dec (ab (na q)) ++ (⟨#[47]⟩ ++ dec m)) := Lib.hid (by unfold partT sgT; simp [hsn, HU.out.2, hm0, ByteArray.append_assoc])
  rw [E.out]
  go_ret
  exact ⟨by first | rfl | simp [ByteArray.append_assoc], HW.out⟩
/-- 'half(z, d)', d not 0. -/
theorem rhalf_any (z : Int) (d : Nat) (A D : Option Addr) (cA cD : Nat) (w : World) (hx : Nat32 w A (ab z)) (hd : Nat32 w D d) (hbx : ln (ab z) ≤ 274877906944) (hbd : ln d ≤ 274877906944) (hd0 : d ≠ 0) :
    Calls Tryz.prog 116 #[.agg #[.bool (sn (z)), .slice A (ln (ab (z))) cA], .slice D (ln d) cD] w (RetStr w (partT (fr z 0 d))) := by
  by_cases hm : nd (fr z 0 d) = 1
  · cases hs : sn z with
    | true => have := rhalf_one1 z d A D cA cD w hx hd hbx hbd hd0 _ rfl hm hs; rwa [hs] at this
    | false => have := rhalf_one0 z d A D cA cD w hx hd hbx hbd hd0 _ rfl hm hs; rwa [hs] at this
  · by_cases hl : ln (nd (fr z 0 d)) = 1
    · cases hs : sn z with
      | true => have := rhalf_few1 z d A D cA cD w hx hd hbx hbd hd0 _ rfl hm hl hs; rwa [hs] at this
      | false => have := rhalf_few0 z d A D cA cD w hx hd hbx hbd hd0 _ rfl hm hl hs; rwa [hs] at this
    · cases hs : sn z with
      | true => have := rhalf_many1 z d A D cA cD w hx hd hbx hbd hd0 _ rfl hm hl hs; rwa [hs] at this
      | false => have := rhalf_many0 z d A D cA cD w hx hd hbx hbd hd0 _ rfl hm hl hs; rwa [hs] at this
end Go.Proofs.YtdpjknjlhchmcaaGreat

namespace Go.Proofs.YtdpjknjlhchmcaaGreat
open Go.RowKit Pl
set_option linter.unusedVariables false
set_option linter.unusedSimpArgs false
set_option maxHeartbeats 4000000 in
theorem rtext_real (x : Cx) (A1 A2 A3 : Option Addr) (cA1 cA2 cA3 : Nat) (w : World) (hx : Num3C w A1 A2 A3 x) (hs : sz 274877906944 x) (h : nb x = 0) :
    Calls Tryz.prog 78 #[.agg #[.bool (sn (na x)), .slice A1 (ln (ab (na x))) cA1, .bool (sn (nb x)), .slice A2 (ln (ab (nb x))) cA2, .slice A3 (ln (nd x)) cA3]] w (RetStr w (textT x)) := by
  have HS : Hid (sz 274877906944 x) := Lib.hid hs
  have HT : Hid (textT x = partT (fr (na x) 0 (nd x))) := Lib.hid (by unfold textT; simp [h])
  have t1 : ((ln (ab (nb x)) : Int) == 0) = true := by rw [h, show ab 0 = 0 from rfl, ln_zero]; rfl
  have zr : (partT (fr (na x) 0 (nd x))).size ≤ 70368744177664 := partT_size (fr_sz (nd_ne0 x) (Nat.le_trans hs.1 (by omega)) (by show ln 0 ≤ _; rw [ln_zero]; omega) (Nat.le_trans hs.2.2 (by omega)))
  have zi : (partT (fr (nb x) 0 (nd x))).size ≤ 70368744177664 := partT_size (fr_sz (nd_ne0 x) (Nat.le_trans hs.2.1 (by omega)) (by show ln 0 ≤ _; rw [ln_zero]; omega) (Nat.le_trans hs.2.2 (by omega)))
  have y1 : ¬ (9223372036854775807 < (partT (fr (nb x) 0 (nd x))).size + 1) := by omega
  have y2 : ¬ (9223372036854775807 < (partT (fr (na x) 0 (nd x))).size + 1) := by omega
  have y3 : ¬ (9223372036854775807 < (partT (fr (na x) 0 (nd x))).size + (partT (fr (nb x) 0 (nd x))).size) := by omega
  have y4 : ¬ (9223372036854775807 < (partT (fr (na x) 0 (nd x))).size + (partT (fr (nb x) 0 (nd x))).size + 1) := by omega
  have y5 : ¬ (9223372036854775807 < (partT (fr (na x) 0 (nd x))).size + 1 + (partT (fr (nb x) 0 (nd x))).size) := by omega
  have y6 : ¬ (9223372036854775807 < (partT (fr (na x) 0 (nd x))).size + 1 + (partT (fr (nb x) 0 (nd x))).size + 1) := by omega
  rw [HT.out]
  clear h hs
  go_enter Tryz.func78, Tryz.ntmps78
  go_wp2_with fail
  obtain ⟨W, hW⟩ : ∃ W : World, W = (w.alloc (.cells #[.bool (sn (na x)), .slice A1 (ln (ab (na x))) cA1, .bool (sn (nb x)), .slice A2 (ln (ab (nb x))) cA2, .slice A3 (ln (nd x)) cA3] 66)) := ⟨_, rfl⟩
  have s0_0 : W.cell? ⟨w.heap.size, 0, none⟩ = some (.bool (sn (na x))) := by subst hW; go_simp
  have s0_1 : W.cell? ⟨w.heap.size, 1, none⟩ = some (.slice A1 (ln (ab (na x))) cA1) := by subst hW; go_simp
  have s0_2 : W.cell? ⟨w.heap.size, 2, none⟩ = some (.bool (sn (nb x))) := by subst hW; go_simp
  have s0_3 : W.cell? ⟨w.heap.size, 3, none⟩ = some (.slice A2 (ln (ab (nb x))) cA2) := by subst hW; go_simp
  have s0_4 : W.cell? ⟨w.heap.size, 4, none⟩ = some (.slice A3 (ln (nd x)) cA3) := by subst hW; go_simp
  have HW : Below w.heap.size w W := by subst hW; exact ((Below.refl w.heap.size w).alloc (Nat.le_refl _) _)
  have l0 : w.heap.size < W.heap.size := by subst hW; simp
  replace hx := hx.to HW
  rw [← hW]
  clear hW
  replace HW := Lib.hid HW
  refine (rhalf_any (na x) (nd x) A1 A3 cA1 cA3 _ (by exact hx.1) (by exact hx.2.2) HS.out.1 HS.out.2.2 (nd_ne0 x)).mono ?_
  rintro e w1 ⟨rfl, hb1⟩
  replace s0_0 := keepc hb1 s0_0 l0
  replace s0_1 := keepc hb1 s0_1 l0
  replace s0_2 := keepc hb1 s0_2 l0
  replace s0_3 := keepc hb1 s0_3 l0
  replace s0_4 := keepc hb1 s0_4 l0
  replace l0 := Nat.lt_of_lt_of_le l0 hb1.size
  replace hx := hx.to hb1
  replace HW := Lib.hid (hstep HW hb1)
  clear hb1
  go_wp2_with fail
  go_ret
  exact ⟨by first | rfl | (unfold imT; simp [ByteArray.append_assoc]), HW.out⟩
set_option maxHeartbeats 4000000 in
theorem rtext_imag (x : Cx) (A1 A2 A3 : Option Addr) (cA1 cA2 cA3 : Nat) (w : World) (hx : Num3C w A1 A2 A3 x) (hs : sz 274877906944 x) (h : nb x ≠ 0) (k : na x = 0) :
    Calls Tryz.prog 78 #[.agg #[.bool (sn (na x)), .slice A1 (ln (ab (na x))) cA1, .bool (sn (nb x)), .slice A2 (ln (ab (nb x))) cA2, .slice A3 (ln (nd x)) cA3]] w (RetStr w (textT x)) := by
  have HS : Hid (sz 274877906944 x) := Lib.hid hs
  have HT : Hid (textT x = imT x) := Lib.hid (by unfold textT; simp [h, k])
  have t1 : ((ln (ab (nb x)) : Int) == 0) = false := by rw [beq_eq_false_iff_ne]; have := ln_pos (n := ab (nb x)) (by unfold ab; omega); omega
  have t2 : ((ln (ab (na x)) : Int) == 0) = true := by rw [k, show ab 0 = 0 from rfl, ln_zero]; rfl
  have zr : (partT (fr (na x) 0 (nd x))).size ≤ 70368744177664 := partT_size (fr_sz (nd_ne0 x) (Nat.le_trans hs.1 (by omega)) (by show ln 0 ≤ _; rw [ln_zero]; omega) (Nat.le_trans hs.2.2 (by omega)))
  have zi : (partT (fr (nb x) 0 (nd x))).size ≤ 70368744177664 := partT_size (fr_sz (nd_ne0 x) (Nat.le_trans hs.2.1 (by omega)) (by show ln 0 ≤ _; rw [ln_zero]; omega) (Nat.le_trans hs.2.2 (by omega)))
  have y1 : ¬ (9223372036854775807 < (partT (fr (nb x) 0 (nd x))).size + 1) := by omega
  have y2 : ¬ (9223372036854775807 < (partT (fr (na x) 0 (nd x))).size + 1) := by omega
  have y3 : ¬ (9223372036854775807 < (partT (fr (na x) 0 (nd x))).size + (partT (fr (nb x) 0 (nd x))).size) := by omega
  have y4 : ¬ (9223372036854775807 < (partT (fr (na x) 0 (nd x))).size + (partT (fr (nb x) 0 (nd x))).size + 1) := by omega
  have y5 : ¬ (9223372036854775807 < (partT (fr (na x) 0 (nd x))).size + 1 + (partT (fr (nb x) 0 (nd x))).size) := by omega
  have y6 : ¬ (9223372036854775807 < (partT (fr (na x) 0 (nd x))).size + 1 + (partT (fr (nb x) 0 (nd x))).size + 1) := by omega
  rw [HT.out]
  clear h hs k
  go_enter Tryz.func78, Tryz.ntmps78
  go_wp2_with fail
  obtain ⟨W, hW⟩ : ∃ W : World, W = (w.alloc (.cells #[.bool (sn (na x)), .slice A1 (ln (ab (na x))) cA1, .bool (sn (nb x)), .slice A2 (ln (ab (nb x))) cA2, .slice A3 (ln (nd x)) cA3] 66)) := ⟨_, rfl⟩
  have s0_0 : W.cell? ⟨w.heap.size, 0, none⟩ = some (.bool (sn (na x))) := by subst hW; go_simp
  have s0_1 : W.cell? ⟨w.heap.size, 1, none⟩ = some (.slice A1 (ln (ab (na x))) cA1) := by subst hW; go_simp
  have s0_2 : W.cell? ⟨w.heap.size, 2, none⟩ = some (.bool (sn (nb x))) := by subst hW; go_simp
  have s0_3 : W.cell? ⟨w.heap.size, 3, none⟩ = some (.slice A2 (ln (ab (nb x))) cA2) := by subst hW; go_simp
  have s0_4 : W.cell? ⟨w.heap.size, 4, none⟩ = some (.slice A3 (ln (nd x)) cA3) := by subst hW; go_simp
  have HW : Below w.heap.size w W := by subst hW; exact ((Below.refl w.heap.size w).alloc (Nat.le_refl _) _)
  have l0 : w.heap.size < W.heap.size := by subst hW; simp
  replace hx := hx.to HW
  rw [← hW]
  clear hW
  replace HW := Lib.hid HW
  refine (rhalf_any (nb x) (nd x) A2 A3 cA2 cA3 _ (by exact hx.2.1) (by exact hx.2.2) HS.out.2.1 HS.out.2.2 (nd_ne0 x)).mono ?_
  rintro e w1 ⟨rfl, hb1⟩
  replace s0_0 := keepc hb1 s0_0 l0
  replace s0_1 := keepc hb1 s0_1 l0
  replace s0_2 := keepc hb1 s0_2 l0
  replace s0_3 := keepc hb1 s0_3 l0
  replace s0_4 := keepc hb1 s0_4 l0
  replace l0 := Nat.lt_of_lt_of_le l0 hb1.size
  replace hx := hx.to hb1
  replace HW := Lib.hid (hstep HW hb1)
  clear hb1
  go_wp2_with fail
  go_ret
  exact ⟨by first | rfl | (unfold imT; simp [ByteArray.append_assoc]), HW.out⟩
set_option maxHeartbeats 4000000 in
theorem rtext_minus (x : Cx) (A1 A2 A3 : Option Addr) (cA1 cA2 cA3 : Nat) (w : World) (hx : Num3C w A1 A2 A3 x) (hs : sz 274877906944 x) (h : nb x ≠ 0) (k : na x ≠ 0) (m : sn (nb x) = true) :
    Calls Tryz.prog 78 #[.agg #[.bool (sn (na x)), .slice A1 (ln (ab (na x))) cA1, .bool (sn (nb x)), .slice A2 (ln (ab (nb x))) cA2, .slice A3 (ln (nd x)) cA3]] w (RetStr w (textT x)) := by
  have HS : Hid (sz 274877906944 x) := Lib.hid hs
  have HT : Hid (textT x = partT (fr (na x) 0 (nd x)) ++ imT x) := Lib.hid (by unfold textT; simp [h, k, m])
  have t1 : ((ln (ab (nb x)) : Int) == 0) = false := by rw [beq_eq_false_iff_ne]; have := ln_pos (n := ab (nb x)) (by unfold ab; omega); omega
  have t2 : ((ln (ab (na x)) : Int) == 0) = false := by rw [beq_eq_false_iff_ne]; have := ln_pos (n := ab (na x)) (by unfold ab; omega); omega
  have hm := Lib.hid m
  have zr : (partT (fr (na x) 0 (nd x))).size ≤ 70368744177664 := partT_size (fr_sz (nd_ne0 x) (Nat.le_trans hs.1 (by omega)) (by show ln 0 ≤ _; rw [ln_zero]; omega) (Nat.le_trans hs.2.2 (by omega)))
  have zi : (partT (fr (nb x) 0 (nd x))).size ≤ 70368744177664 := partT_size (fr_sz (nd_ne0 x) (Nat.le_trans hs.2.1 (by omega)) (by show ln 0 ≤ _; rw [ln_zero]; omega) (Nat.le_trans hs.2.2 (by omega)))
  have y1 : ¬ (9223372036854775807 < (partT (fr (nb x) 0 (nd x))).size + 1) := by omega
  have y2 : ¬ (9223372036854775807 < (partT (fr (na x) 0 (nd x))).size + 1) := by omega
  have y3 : ¬ (9223372036854775807 < (partT (fr (na x) 0 (nd x))).size + (partT (fr (nb x) 0 (nd x))).size) := by omega
  have y4 : ¬ (9223372036854775807 < (partT (fr (na x) 0 (nd x))).size + (partT (fr (nb x) 0 (nd x))).size + 1) := by omega
  have y5 : ¬ (9223372036854775807 < (partT (fr (na x) 0 (nd x))).size + 1 + (partT (fr (nb x) 0 (nd x))).size) := by omega
  have y6 : ¬ (9223372036854775807 < (partT (fr (na x) 0 (nd x))).size + 1 + (partT (fr (nb x) 0 (nd x))).size + 1) := by omega
  rw [HT.out]
  clear h hs k m
  go_enter Tryz.func78, Tryz.ntmps78
  go_upto_region 5 with fail
  obtain ⟨W, hW⟩ : ∃ W : World, W = (w.alloc (.cells #[.bool (sn (na x)), .slice A1 (ln (ab (na x))) cA1, .bool (sn (nb x)), .slice A2 (ln (ab (nb x))) cA2, .slice A3 (ln (nd x)) cA3] 66)) := ⟨_, rfl⟩
  have s0_0 : W.cell? ⟨w.heap.size, 0, none⟩ = some (.bool (sn (na x))) := by subst hW; go_simp
  have s0_1 : W.cell? ⟨w.heap.size, 1, none⟩ = some (.slice A1 (ln (ab (na x))) cA1) := by subst hW; go_simp
  have s0_2 : W.cell? ⟨w.heap.size, 2, none⟩ = some (.bool (sn (nb x))) := by subst hW; go_simp
  have s0_3 : W.cell? ⟨w.heap.size, 3, none⟩ = some (.slice A2 (ln (ab (nb x))) cA2) := by subst hW; go_simp
  have s0_4 : W.cell? ⟨w.heap.size, 4, none⟩ = some (.slice A3 (ln (nd x)) cA3) := by subst hW; go_simp
  have HW : Below w.heap.size w W := by subst hW; exact ((Below.refl w.heap.size w).alloc (Nat.le_refl _) _)
  have l0 : w.heap.size < W.heap.size := by subst hW; simp
  replace hx := hx.to HW
  rw [← hW]
  clear hW
  replace HW := Lib.hid HW
  have k2 := Lib.hid s0_2
  rw [hm.out] at s0_2
  go_wp2_with fail
  replace s0_2 := k2.out
  clear k2
  go_region_held3 (fun w' => w'.cell? ⟨w.heap.size, 0, none⟩ = some (.bool (sn (na x))) ∧ w'.cell? ⟨w.heap.size, 1, none⟩ = some (.slice A1 (ln (ab (na x))) cA1) ∧ w'.cell? ⟨w.heap.size, 2, none⟩ = some (.bool (sn (nb x))) ∧ w'.cell? ⟨w.heap.size, 3, none⟩ = some (.slice A2 (ln (ab (nb x))) cA2) ∧ w'.cell? ⟨w.heap.size, 4, none⟩ = some (.slice A3 (ln (nd x)) cA3)) (first | with_reducible exact ⟨s0_0, s0_1, s0_2, s0_3, s0_4⟩ | with_reducible exact ⟨s0_0, s0_1, s0_2, s0_3, s0_4⟩ | exact ⟨s0_0, s0_1, s0_2, s0_3, s0_4⟩) (first
    | (go_at_call_of 116 (Value.slice A1 (ln (ab (na x))) cA1); refine (rhalf_any (na x) (nd x) A1 A3 cA1 cA3 _ (by exact hx.1) (by exact hx.2.2) HS.out.1 HS.out.2.2 (nd_ne0 x)).mono ?_; rintro e w1 ⟨rfl, hb1⟩; have hb1 := undrew hb1; replace s0_0 := keepc hb1 s0_0 l0; replace s0_1 := keepc hb1 s0_1 l0; replace s0_2 := keepc hb1 s0_2 l0; replace s0_3 := keepc hb1 s0_3 l0; replace s0_4 := keepc hb1 s0_4 l0; replace l0 := Nat.lt_of_lt_of_le l0 hb1.size; replace hx := hx.to hb1; replace HW := Lib.hid (hstep HW hb1); clear hb1)
    | (go_at_call_of 116 (Value.slice A2 (ln (ab (nb x))) cA2); refine (rhalf_any (nb x) (nd x) A2 A3 cA2 cA3 _ (by exact hx.2.1) (by exact hx.2.2) HS.out.2.1 HS.out.2.2 (nd_ne0 x)).mono ?_; rintro e w2 ⟨rfl, hb2⟩; replace s0_0 := keepc hb2 s0_0 l0; replace s0_1 := keepc hb2 s0_1 l0; replace s0_2 := keepc hb2 s0_2 l0; replace s0_3 := keepc hb2 s0_3 l0; replace s0_4 := keepc hb2 s0_4 l0; replace l0 := Nat.lt_of_lt_of_le l0 hb2.size; replace hx := hx.to hb2; replace HW := Lib.hid (hstep HW hb2); clear hb2))
  go_wp2_with fail
  go_ret
  exact ⟨by first | rfl | (unfold imT; simp [ByteArray.append_assoc]), HW.out⟩
set_option maxHeartbeats 4000000 in
theorem rtext_plus (x : Cx) (A1 A2 A3 : Option Addr) (cA1 cA2 cA3 : Nat) (w : World) (hx : Num3C w A1 A2 A3 x) (hs : sz 274877906944 x) (h : nb x ≠ 0) (k : na x ≠ 0) (m : sn (nb x) = false) :
    Calls Tryz.prog 78 #[.agg #[.bool (sn (na x)), .slice A1 (ln (ab (na x))) cA1, .bool (sn (nb x)), .slice A2 (ln (ab (nb x))) cA2, .slice A3 (ln (nd x)) cA3]] w (RetStr w (textT x)) := by
  have HS : Hid (sz 274877906944 x) := Lib.hid hs
  have HT : Hid (textT x = partT (fr (na x) 0 (nd x)) ++ (⟨#[43]⟩ ++ imT x)) := Lib.hid (by unfold textT; simp [h, k, m])
  have t1 : ((ln (ab (nb x)) : Int) == 0) = false := by rw [beq_eq_false_iff_ne]; have := ln_pos (n := ab (nb x)) (by unfold ab; omega); omega
  have t2 : ((ln (ab (na x)) : Int) == 0) = false := by rw [beq_eq_false_iff_ne]; have := ln_pos (n := ab (na x)) (by unfold ab; omega); omega
  have hm := Lib.hid m
  have zr : (partT (fr (na x) 0 (nd x))).size ≤ 70368744177664 := partT_size (fr_sz (nd_ne0 x) (Nat.le_trans hs.1 (by omega)) (by show ln 0 ≤ _; rw [ln_zero]; omega) (Nat.le_trans hs.2.2 (by omega)))
  have zi : (partT (fr (nb x) 0 (nd x))).size ≤ 70368744177664 := partT_size (fr_sz (nd_ne0 x) (Nat.le_trans hs.2.1 (by omega)) (by show ln 0 ≤ _; rw [ln_zero]; omega) (Nat.le_trans hs.2.2 (by omega)))
  have y1 : ¬ (9223372036854775807 < (partT (fr (nb x) 0 (nd x))).size + 1) := by omega
  have y2 : ¬ (9223372036854775807 < (partT (fr (na x) 0 (nd x))).size + 1) := by omega
  have y3 : ¬ (9223372036854775807 < (partT (fr (na x) 0 (nd x))).size + (partT (fr (nb x) 0 (nd x))).size) := by omega
  have y4 : ¬ (9223372036854775807 < (partT (fr (na x) 0 (nd x))).size + (partT (fr (nb x) 0 (nd x))).size + 1) := by omega
  have y5 : ¬ (9223372036854775807 < (partT (fr (na x) 0 (nd x))).size + 1 + (partT (fr (nb x) 0 (nd x))).size) := by omega
  have y6 : ¬ (9223372036854775807 < (partT (fr (na x) 0 (nd x))).size + 1 + (partT (fr (nb x) 0 (nd x))).size + 1) := by omega
  rw [HT.out]
  clear h hs k m
  go_enter Tryz.func78, Tryz.ntmps78
  go_upto_region 5 with fail
  obtain ⟨W, hW⟩ : ∃ W : World, W = (w.alloc (.cells #[.bool (sn (na x)), .slice A1 (ln (ab (na x))) cA1, .bool (sn (nb x)), .slice A2 (ln (ab (nb x))) cA2, .slice A3 (ln (nd x)) cA3] 66)) := ⟨_, rfl⟩
  have s0_0 : W.cell? ⟨w.heap.size, 0, none⟩ = some (.bool (sn (na x))) := by subst hW; go_simp
  have s0_1 : W.cell? ⟨w.heap.size, 1, none⟩ = some (.slice A1 (ln (ab (na x))) cA1) := by subst hW; go_simp
  have s0_2 : W.cell? ⟨w.heap.size, 2, none⟩ = some (.bool (sn (nb x))) := by subst hW; go_simp
  have s0_3 : W.cell? ⟨w.heap.size, 3, none⟩ = some (.slice A2 (ln (ab (nb x))) cA2) := by subst hW; go_simp
  have s0_4 : W.cell? ⟨w.heap.size, 4, none⟩ = some (.slice A3 (ln (nd x)) cA3) := by subst hW; go_simp
  have HW : Below w.heap.size w W := by subst hW; exact ((Below.refl w.heap.size w).alloc (Nat.le_refl _) _)
  have l0 : w.heap.size < W.heap.size := by subst hW; simp
  replace hx := hx.to HW
  rw [← hW]
  clear hW
  replace HW := Lib.hid HW
  have k2 := Lib.hid s0_2
  rw [hm.out] at s0_2
  go_wp2_with fail
  replace s0_2 := k2.out
  clear k2
  go_region_held3 (fun w' => w'.cell? ⟨w.heap.size, 0, none⟩ = some (.bool (sn (na x))) ∧ w'.cell? ⟨w.heap.size, 1, none⟩ = some (.slice A1 (ln (ab (na x))) cA1) ∧ w'.cell? ⟨w.heap.size, 2, none⟩ = some (.bool (sn (nb x))) ∧ w'.cell? ⟨w.heap.size, 3, none⟩ = some (.slice A2 (ln (ab (nb x))) cA2) ∧ w'.cell? ⟨w.heap.size, 4, none⟩ = some (.slice A3 (ln (nd x)) cA3)) (first | with_reducible exact ⟨s0_0, s0_1, s0_2, s0_3, s0_4⟩ | with_reducible exact ⟨s0_0, s0_1, s0_2, s0_3, s0_4⟩ | exact ⟨s0_0, s0_1, s0_2, s0_3, s0_4⟩) (first
    | (go_at_call_of 116 (Value.slice A1 (ln (ab (na x))) cA1); refine (rhalf_any (na x) (nd x) A1 A3 cA1 cA3 _ (by exact hx.1) (by exact hx.2.2) HS.out.1 HS.out.2.2 (nd_ne0 x)).mono ?_; rintro e w1 ⟨rfl, hb1⟩; have hb1 := undrew hb1; replace s0_0 := keepc hb1 s0_0 l0; replace s0_1 := keepc hb1 s0_1 l0; replace s0_2 := keepc hb1 s0_2 l0; replace s0_3 := keepc hb1 s0_3 l0; replace s0_4 := keepc hb1 s0_4 l0; replace l0 := Nat.lt_of_lt_of_le l0 hb1.size; replace hx := hx.to hb1; replace HW := Lib.hid (hstep HW hb1); clear hb1)
    | (go_at_call_of 116 (Value.slice A2 (ln (ab (nb x))) cA2); refine (rhalf_any (nb x) (nd x) A2 A3 cA2 cA3 _ (by exact hx.2.1) (by exact hx.2.2) HS.out.2.1 HS.out.2.2 (nd_ne0 x)).mono ?_; rintro e w2 ⟨rfl, hb2⟩; replace s0_0 := keepc hb2 s0_0 l0; replace s0_1 := keepc hb2 s0_1 l0; replace s0_2 := keepc hb2 s0_2 l0; replace s0_3 := keepc hb2 s0_3 l0; replace s0_4 := keepc hb2 s0_4 l0; replace l0 := Nat.lt_of_lt_of_le l0 hb2.size; replace hx := hx.to hb2; replace HW := Lib.hid (hstep HW hb2); clear hb2))
  go_wp2_with fail
  go_ret
  exact ⟨by first | rfl | (unfold imT; simp [ByteArray.append_assoc]), HW.out⟩
/-- 'Text(x)' of the reference. -/
theorem rtextq_any (x : Cx) (A1 A2 A3 : Option Addr) (cA1 cA2 cA3 : Nat) (w : World) (hx : Num3C w A1 A2 A3 x) (hs : sz 274877906944 x) :
    Calls Tryz.prog 78 #[.agg #[.bool (sn (na x)), .slice A1 (ln (ab (na x))) cA1, .bool (sn (nb x)), .slice A2 (ln (ab (nb x))) cA2, .slice A3 (ln (nd x)) cA3]] w (RetStr w (textT x)) := by
  by_cases h : nb x = 0
  · exact rtext_real x A1 A2 A3 cA1 cA2 cA3 w hx hs h
  · by_cases k : na x = 0
    · exact rtext_imag x A1 A2 A3 cA1 cA2 cA3 w hx hs h k
    · cases m : sn (nb x) with
      | true => have := rtext_minus x A1 A2 A3 cA1 cA2 cA3 w hx hs h k m; rwa [m] at this
      | false => have := rtext_plus x A1 A2 A3 cA1 cA2 cA3 w hx hs h k m; rwa [m] at this
end Go.Proofs.YtdpjknjlhchmcaaGreat

namespace Go.Proofs.YtdpjknjlhchmcaaGreat
open Go.RowKit Pl
set_option linter.unusedVariables false
set_option linter.unusedSimpArgs false
set_option maxHeartbeats 4000000 in
theorem is_true (q : Cx) (A1 A2 A3 B1 B2 B3 : Option Addr) (cB1 cB2 cB3 : Nat) (w : World) (hx : Num3 w A1 A2 A3 q) (hy : Num3C w B1 B2 B3 q) (hs : sz 274877906944 q) :
    Calls Tryz.prog 32 #[.agg #[.bool (sn (na q)), .slice A1 (ln (ab (na q))) (ln (ab (na q))), .bool (sn (nb q)), .slice A2 (ln (ab (nb q))) (ln (ab (nb q))), .slice A3 (ln (un q)) (ln (un q))], .agg #[.bool (sn (na q)), .slice B1 (ln (ab (na q))) cB1, .bool (sn (nb q)), .slice B2 (ln (ab (nb q))) cB2, .slice B3 (ln (nd q)) cB3]] w (RetBool w true) := by
  have HS : Hid (sz 274877906944 q) := Lib.hid hs
  clear hs
  go_enter Tryz.func32, Tryz.ntmps32
  go_wp2_with fail
  obtain ⟨W, hW⟩ : ∃ W : World, W = ((w.alloc (.cells #[.bool (sn (na q)), .slice A1 (ln (ab (na q))) (ln (ab (na q))), .bool (sn (nb q)), .slice A2 (ln (ab (nb q))) (ln (ab (nb q))), .slice A3 (ln (un q)) (ln (un q))] 45)).alloc (.cells #[.bool (sn (na q)), .slice B1 (ln (ab (na q))) cB1, .bool (sn (nb q)), .slice B2 (ln (ab (nb q))) cB2, .slice B3 (ln (nd q)) cB3] 66)) := ⟨_, rfl⟩
  have s0_0 : W.cell? ⟨w.heap.size, 0, none⟩ = some (.bool (sn (na q))) := by subst hW; go_simp
  have s0_1 : W.cell? ⟨w.heap.size, 1, none⟩ = some (.slice A1 (ln (ab (na q))) (ln (ab (na q)))) := by subst hW; go_simp
  have s0_2 : W.cell? ⟨w.heap.size, 2, none⟩ = some (.bool (sn (nb q))) := by subst hW; go_simp
  have s0_3 : W.cell? ⟨w.heap.size, 3, none⟩ = some (.slice A2 (ln (ab (nb q))) (ln (ab (nb q)))) := by subst hW; go_simp
  have s0_4 : W.cell? ⟨w.heap.size, 4, none⟩ = some (.slice A3 (ln (un q)) (ln (un q))) := by subst hW; go_simp
  have s1_0 : W.cell? ⟨w.heap.size + 1, 0, none⟩ = some (.bool (sn (na q))) := by subst hW; go_simp
  have s1_1 : W.cell? ⟨w.heap.size + 1, 1, none⟩ = some (.slice B1 (ln (ab (na q))) cB1) := by subst hW; go_simp
  have s1_2 : W.cell? ⟨w.heap.size + 1, 2, none⟩ = some (.bool (sn (nb q))) := by subst hW; go_simp
  have s1_3 : W.cell? ⟨w.heap.size + 1, 3, none⟩ = some (.slice B2 (ln (ab (nb q))) cB2) := by subst hW; go_simp
  have s1_4 : W.cell? ⟨w.heap.size + 1, 4, none⟩ = some (.slice B3 (ln (nd q)) cB3) := by subst hW; go_simp
  have HW : Below w.heap.size w W := by subst hW; exact (((Below.refl w.heap.size w).alloc (Nat.le_refl _) _).alloc (by simp) _)
  have l0 : w.heap.size < W.heap.size := by subst hW; simp <;> omega
  have l1 : w.heap.size + 1 < W.heap.size := by subst hW; simp
  replace hx := hx.to HW
  replace hy := hy.to HW
  rw [← hW]
  clear hW
  replace HW := Lib.hid HW
  go_region_held3 (fun w' => w'.cell? ⟨w.heap.size, 0, none⟩ = some (.bool (sn (na q))) ∧ w'.cell? ⟨w.heap.size, 1, none⟩ = some (.slice A1 (ln (ab (na q))) (ln (ab (na q)))) ∧ w'.cell? ⟨w.heap.size, 2, none⟩ = some (.bool (sn (nb q))) ∧ w'.cell? ⟨w.heap.size, 3, none⟩ = some (.slice A2 (ln (ab (nb q))) (ln (ab (nb q)))) ∧ w'.cell? ⟨w.heap.size, 4, none⟩ = some (.slice A3 (ln (un q)) (ln (un q))) ∧ w'.cell? ⟨w.heap.size + 1, 0, none⟩ = some (.bool (sn (na q))) ∧ w'.cell? ⟨w.heap.size + 1, 1, none⟩ = some (.slice B1 (ln (ab (na q))) cB1) ∧ w'.cell? ⟨w.heap.size + 1, 2, none⟩ = some (.bool (sn (nb q))) ∧ w'.cell? ⟨w.heap.size + 1, 3, none⟩ = some (.slice B2 (ln (ab (nb q))) cB2) ∧ w'.cell? ⟨w.heap.size + 1, 4, none⟩ = some (.slice B3 (ln (nd q)) cB3)) (first | with_reducible exact ⟨s0_0, s0_1, s0_2, s0_3, s0_4, s1_0, s1_1, s1_2, s1_3, s1_4⟩ | with_reducible exact ⟨s0_0, s0_1, s0_2, s0_3, s0_4, s1_0, s1_1, s1_2, s1_3, s1_4⟩ | exact ⟨s0_0, s0_1, s0_2, s0_3, s0_4, s1_0, s1_1, s1_2, s1_3, s1_4⟩) (first
    | (go_at_call 47; refine (text_any q A1 A2 A3 _ (by exact hx) HS.out).mono ?_; rintro e w1 ⟨rfl, hb1⟩; have hb1 := undrew hb1; replace s0_0 := keepc hb1 s0_0 l0; replace s0_1 := keepc hb1 s0_1 l0; replace s0_2 := keepc hb1 s0_2 l0; replace s0_3 := keepc hb1 s0_3 l0; replace s0_4 := keepc hb1 s0_4 l0; replace s1_0 := keepc hb1 s1_0 l1; replace s1_1 := keepc hb1 s1_1 l1; replace s1_2 := keepc hb1 s1_2 l1; replace s1_3 := keepc hb1 s1_3 l1; replace s1_4 := keepc hb1 s1_4 l1; replace l0 := Nat.lt_of_lt_of_le l0 hb1.size; replace l1 := Nat.lt_of_lt_of_le l1 hb1.size; replace hx := hx.to hb1; replace hy := hy.to hb1; replace HW := Lib.hid (hstep HW hb1); clear hb1)
    | (go_at_call 78; refine (rtextq_any q B1 B2 B3 cB1 cB2 cB3 _ (by exact hy) HS.out).mono ?_; rintro e w2 ⟨rfl, hb2⟩; replace s0_0 := keepc hb2 s0_0 l0; replace s0_1 := keepc hb2 s0_1 l0; replace s0_2 := keepc hb2 s0_2 l0; replace s0_3 := keepc hb2 s0_3 l0; replace s0_4 := keepc hb2 s0_4 l0; replace s1_0 := keepc hb2 s1_0 l1; replace s1_1 := keepc hb2 s1_1 l1; replace s1_2 := keepc hb2 s1_2 l1; replace s1_3 := keepc hb2 s1_3 l1; replace s1_4 := keepc hb2 s1_4 l1; replace l0 := Nat.lt_of_lt_of_le l0 hb2.size; replace l1 := Nat.lt_of_lt_of_le l1 hb2.size; replace hx := hx.to hb2; replace hy := hy.to hb2; replace HW := Lib.hid (hstep HW hb2); clear hb2))
  go_wp2_with fail
  go_ret
  exact ⟨by first | rfl | simp, HW.out⟩
end Go.Proofs.YtdpjknjlhchmcaaGreat

namespace Go.Proofs.YtdpjknjlhchmcaaGreat
open Go.RowKit Pl
set_option linter.unusedVariables false
set_option linter.unusedSimpArgs false
/-- The five cells of a number of the reference. -/
def Cells5c (w : World) (g : Nat) (q : Cx) (A1 A2 A3 : Option Addr) (k1 k2 k3 : Nat) : Prop := w.cell? ⟨g, 0, none⟩ = some (.bool (sn (na q))) ∧ w.cell? ⟨g, 1, none⟩ = some (.slice A1 (ln (ab (na q))) k1) ∧ w.cell? ⟨g, 2, none⟩ = some (.bool (sn (nb q))) ∧ w.cell? ⟨g, 3, none⟩ = some (.slice A2 (ln (ab (nb q))) k2) ∧ w.cell? ⟨g, 4, none⟩ = some (.slice A3 (ln (nd q)) k3)
/-- A Num is stored into the five cells of the block p. -/
def set5c (w : World) (p : Nat) (q : Cx) (A1 A2 A3 : Option Addr) (k1 k2 k3 : Nat) : World :=
  ((((w.setCell ⟨p, 0, none⟩ (.bool (sn (na q)))).setCell ⟨p, 1, none⟩ (.slice A1 (ln (ab (na q))) k1)).setCell ⟨p, 2, none⟩ (.bool (sn (nb q)))).setCell ⟨p, 3, none⟩ (.slice A2 (ln (ab (nb q))) k2)).setCell ⟨p, 4, none⟩ (.slice A3 (ln (nd q)) k3)
theorem set5c_size (w : World) (p : Nat) (q : Cx) (A1 A2 A3 : Option Addr) (k1 k2 k3 : Nat) : (set5c w p q A1 A2 A3 k1 k2 k3).heap.size = w.heap.size := by simp [set5c, World.setCell]
theorem set5c_cell {w : World} {p b i : Nat} {q : Cx} {A1 A2 A3 : Option Addr} {k1 k2 k3 : Nat} {v : Value} (h : w.cell? ⟨b, i, none⟩ = some v) (h1 : b ≠ p) : (set5c w p q A1 A2 A3 k1 k2 k3).cell? ⟨b, i, none⟩ = some v := keepo (keepo (keepo (keepo (keepo h (.inl h1)) (.inl h1)) (.inl h1)) (.inl h1)) (.inl h1)
theorem set5c_frozen {w : World} {p b i : Nat} {q : Cx} {A1 A2 A3 : Option Addr} {k1 k2 k3 : Nat} {v : Bool} (h : w.frozen? ⟨b, i, none⟩ = v) : (set5c w p q A1 A2 A3 k1 k2 k3).frozen? ⟨b, i, none⟩ = v := keepof (keepof (keepof (keepof (keepof h))))
theorem set5c_below {w W : World} {B p : Nat} {q : Cx} {A1 A2 A3 : Option Addr} {k1 k2 k3 : Nat} (h : Below B w W) (hp : B ≤ p) : Below B w (set5c W p q A1 A2 A3 k1 k2 k3) :=
  ((((h.setCell (by exact hp) _).setCell (by exact hp) _).setCell (by exact hp) _).setCell (by exact hp) _).setCell (by exact hp) _
theorem set5c_nat {w : World} {p n : Nat} {q : Cx} {A1 A2 A3 A : Option Addr} {k1 k2 k3 : Nat} {c : Bool} (h : Nat32 w A n) (u : w.cell? ⟨p, 0, none⟩ = some (.bool c)) : Nat32 (set5c w p q A1 A2 A3 k1 k2 k3) A n := by
  have nb : ∀ (b : Bool) k m, Value.bool b ≠ .int k m := by intro b k m e; cases e
  have a1 := cell_self (u := .bool (sn (na q))) u
  have a2 := keepo (R := p) (j := 1) (u := .slice A1 (ln (ab (na q))) k1) a1 (.inr (by omega))
  have a3 := keepo (R := p) (j := 2) (u := .bool (sn (Pl.nb q))) a2 (.inr (by omega))
  have a4 := keepo (R := p) (j := 3) (u := .slice A2 (ln (ab (Pl.nb q))) k2) a3 (.inr (by omega))
  exact ((((h.setBox u (nb _)).setBox a1 (nb _)).setBox a2 (nb _)).setBox a3 (nb _)).setBox a4 (nb _)
theorem set5c_num3 {w : World} {p : Nat} {q r : Cx} {A1 A2 A3 B1 B2 B3 : Option Addr} {k1 k2 k3 : Nat} {c : Bool} (h : Num3C w B1 B2 B3 r) (u : w.cell? ⟨p, 0, none⟩ = some (.bool c)) : Num3C (set5c w p q A1 A2 A3 k1 k2 k3) B1 B2 B3 r := ⟨set5c_nat h.1 u, set5c_nat h.2.1 u, set5c_nat h.2.2 u⟩
theorem set5c_self {w : World} {p : Nat} {q : Cx} {A1 A2 A3 : Option Addr} {k1 k2 k3 : Nat} {v0 v1 v2 v3 v4 : Value} (u0 : w.cell? ⟨p, 0, none⟩ = some v0) (u1 : w.cell? ⟨p, 1, none⟩ = some v1) (u2 : w.cell? ⟨p, 2, none⟩ = some v2) (u3 : w.cell? ⟨p, 3, none⟩ = some v3) (u4 : w.cell? ⟨p, 4, none⟩ = some v4) : Cells5c (set5c w p q A1 A2 A3 k1 k2 k3) p q A1 A2 A3 k1 k2 k3 := by
  unfold set5c
  have o0 := cell_self (u := .bool (sn (na q))) u0
  refine ⟨?_, ?_, ?_, ?_, ?_⟩
  · exact keepo (keepo (keepo (keepo o0 (by omega)) (by omega)) (by omega)) (by omega)
  · exact keepo (keepo (keepo (cell_self (keepo u1 (by omega))) (by omega)) (by omega)) (by omega)
  · exact keepo (keepo (cell_self (keepo (keepo u2 (by omega)) (by omega))) (by omega)) (by omega)
  · exact keepo (cell_self (keepo (keepo (keepo u3 (by omega)) (by omega)) (by omega))) (by omega)
  · exact cell_self (keepo (keepo (keepo (keepo u4 (by omega)) (by omega)) (by omega)) (by omega))
set_option maxHeartbeats 4000000 in
theorem rof_more (a b d : Int) (w : World) (ha : -9223372036854775808 ≤ a ∧ a ≤ 9223372036854775807) (hb : -9223372036854775808 ≤ b ∧ b ≤ 9223372036854775807) (hd : -9223372036854775808 ≤ d ∧ d ≤ 9223372036854775807) (h : d ≠ 0) :
    Calls Tryz.prog 53 #[.agg #[.int .i64 a, .int .i64 b, .int .i64 d]] w (RetNumC w (frz a b d)) := by
  have HA := Lib.hid ha
  have HB := Lib.hid hb
  have HD := Lib.hid hd
  have H0 := Lib.hid h
  have t : (d == 0) = false := by rw [beq_eq_false_iff_ne]; omega
  clear ha hb hd h
  go_enter Tryz.func53, Tryz.ntmps53
  go_wp2_with fail
  obtain ⟨W, hW⟩ : ∃ W : World, W = ((w.alloc (.cells #[.int .i64 a, .int .i64 b, .int .i64 d] 82)).alloc (.cells #[.bool false, .slice none 0 0, .bool false, .slice none 0 0, .slice none 0 0] 66)) := ⟨_, rfl⟩
  have s0_0 : W.cell? ⟨w.heap.size, 0, none⟩ = some (.int .i64 a) := by subst hW; go_simp
  have s0_1 : W.cell? ⟨w.heap.size, 1, none⟩ = some (.int .i64 b) := by subst hW; go_simp
  have s0_2 : W.cell? ⟨w.heap.size, 2, none⟩ = some (.int .i64 d) := by subst hW; go_simp
  have r0 : W.cell? ⟨w.heap.size + 1, 0, none⟩ = some (.bool false) := by subst hW; go_simp
  have f0 : W.frozen? ⟨w.heap.size + 1, 0, none⟩ = false := by subst hW; go_simp
  have r1 : W.cell? ⟨w.heap.size + 1, 1, none⟩ = some (.slice none 0 0) := by subst hW; go_simp
  have f1 : W.frozen? ⟨w.heap.size + 1, 1, none⟩ = false := by subst hW; go_simp
  have r2 : W.cell? ⟨w.heap.size + 1, 2, none⟩ = some (.bool false) := by subst hW; go_simp
  have f2 : W.frozen? ⟨w.heap.size + 1, 2, none⟩ = false := by subst hW; go_simp
  have r3 : W.cell? ⟨w.heap.size + 1, 3, none⟩ = some (.slice none 0 0) := by subst hW; go_simp
  have f3 : W.frozen? ⟨w.heap.size + 1, 3, none⟩ = false := by subst hW; go_simp
  have r4 : W.cell? ⟨w.heap.size + 1, 4, none⟩ = some (.slice none 0 0) := by subst hW; go_simp
  have f4 : W.frozen? ⟨w.heap.size + 1, 4, none⟩ = false := by subst hW; go_simp
  have HW : Below w.heap.size w W := by subst hW; exact (((Below.refl w.heap.size w).alloc (Nat.le_refl _) _).alloc (by simp) _)
  have l0 : w.heap.size < W.heap.size := by subst hW; simp <;> omega
  have l1 : w.heap.size + 1 < W.heap.size := by subst hW; simp
  have n0 : w.heap.size ≠ w.heap.size + 1 := by omega
  rw [← hW]
  clear hW
  replace HW := Lib.hid HW
  refine (rnew_any a b d _ HA.out HB.out HD.out H0.out).mono ?_
  rintro e w1 ⟨A1, A2, A3, cA1, cA2, cA3, rfl, h1, hb1⟩
  replace s0_0 := keepc hb1 s0_0 l0
  replace s0_1 := keepc hb1 s0_1 l0
  replace s0_2 := keepc hb1 s0_2 l0
  replace r0 := keepc hb1 r0 l1
  replace f0 := keepf hb1 f0 l1
  replace r1 := keepc hb1 r1 l1
  replace f1 := keepf hb1 f1 l1
  replace r2 := keepc hb1 r2 l1
  replace f2 := keepf hb1 f2 l1
  replace r3 := keepc hb1 r3 l1
  replace f3 := keepf hb1 f3 l1
  replace r4 := keepc hb1 r4 l1
  replace f4 := keepf hb1 f4 l1
  replace l0 := Nat.lt_of_lt_of_le l0 hb1.size
  replace l1 := Nat.lt_of_lt_of_le l1 hb1.size
  replace HW := Lib.hid (hstep HW hb1)
  clear hb1
  go_wp2_with fail
  obtain ⟨X, hX⟩ : ∃ X : World, X = set5c w1 (w.heap.size + 1) (frz a b d) A1 A2 A3 cA1 cA2 cA3 := ⟨_, rfl⟩
  have hw : set5c w1 (w.heap.size + 1) (frz a b d) A1 A2 A3 cA1 cA2 cA3 = X := hX.symm
  unfold set5c at hw
  rw [hw]
  clear hw
  have c5 := set5c_self (q := (frz a b d)) (A1 := A1) (A2 := A2) (A3 := A3) (k1 := cA1) (k2 := cA2) (k3 := cA3) r0 r1 r2 r3 r4
  rw [← hX] at c5
  have HX : Hid (Below w.heap.size w X) := by rw [hX]; exact Lib.hid (set5c_below HW.out (by omega))
  have hx := set5c_num3 (q := (frz a b d)) (A1 := A1) (A2 := A2) (A3 := A3) (k1 := cA1) (k2 := cA2) (k3 := cA3) h1 r0
  rw [← hX] at hx
  have lX : w.heap.size + 1 < X.heap.size := by rw [hX, set5c_size]; exact l1
  clear hX
  obtain ⟨Y, hY⟩ : ∃ Y : World, Y = X.alloc (.cells #[.bool (sn (na (frz a b d))), .slice A1 (ln (ab (na (frz a b d)))) cA1, .bool (sn (nb (frz a b d))), .slice A2 (ln (ab (nb (frz a b d)))) cA2, .slice A3 (ln (nd (frz a b d))) cA3] 66) := ⟨_, rfl⟩
  have b1 : Below X.heap.size X Y := by rw [hY]; exact (Below.refl _ _).alloc (Nat.le_refl _) _
  rw [← hY]
  clear hY
  have hy := hx.to b1
  have k0 := keepc b1 c5.1 lX
  have k1 := keepc b1 c5.2.1 lX
  have k2 := keepc b1 c5.2.2.1 lX
  have k3 := keepc b1 c5.2.2.2.1 lX
  have k4 := keepc b1 c5.2.2.2.2 lX
  replace HX := Lib.hid (hstep HX b1)
  clear c5 r0 r1 r2 r3 r4 f0 f1 f2 f3 f4 b1
  exact bodyPost_ret (v := .agg #[.bool (sn (na (frz a b d))), .slice A1 (ln (ab (na (frz a b d)))) cA1, .bool (sn (nb (frz a b d))), .slice A2 (ln (ab (nb (frz a b d)))) cA2, .slice A3 (ln (nd (frz a b d))) cA3]) (by simp [results, Tryz.results53, go_sem, k0, k1, k2, k3, k4]) rfl ⟨A1, A2, A3, cA1, cA2, cA3, rfl, hy, HX.out⟩
set_option maxHeartbeats 4000000 in
theorem rof_zero0 (a b : Int) (q : Cx) (w : World) (HN : ∀ w, Calls Tryz.prog 96 #[.int .i64 a, .int .i64 b, .int .i64 1] w (RetNumCE w 0 q)) :
    Calls Tryz.prog 53 #[.agg #[.int .i64 a, .int .i64 b, .int .i64 0]] w (RetNumC w q) := by
  go_enter Tryz.func53, Tryz.ntmps53
  go_wp2_with fail
  obtain ⟨W, hW⟩ : ∃ W : World, W = ((w.alloc (.cells #[.int .i64 a, .int .i64 b, .int .i64 1] 82)).alloc (.cells #[.bool false, .slice none 0 0, .bool false, .slice none 0 0, .slice none 0 0] 66)) := ⟨_, rfl⟩
  have s0_0 : W.cell? ⟨w.heap.size, 0, none⟩ = some (.int .i64 a) := by subst hW; go_simp
  have s0_1 : W.cell? ⟨w.heap.size, 1, none⟩ = some (.int .i64 b) := by subst hW; go_simp
  have s0_2 : W.cell? ⟨w.heap.size, 2, none⟩ = some (.int .i64 1) := by subst hW; go_simp
  have r0 : W.cell? ⟨w.heap.size + 1, 0, none⟩ = some (.bool false) := by subst hW; go_simp
  have f0 : W.frozen? ⟨w.heap.size + 1, 0, none⟩ = false := by subst hW; go_simp
  have r1 : W.cell? ⟨w.heap.size + 1, 1, none⟩ = some (.slice none 0 0) := by subst hW; go_simp
  have f1 : W.frozen? ⟨w.heap.size + 1, 1, none⟩ = false := by subst hW; go_simp
  have r2 : W.cell? ⟨w.heap.size + 1, 2, none⟩ = some (.bool false) := by subst hW; go_simp
  have f2 : W.frozen? ⟨w.heap.size + 1, 2, none⟩ = false := by subst hW; go_simp
  have r3 : W.cell? ⟨w.heap.size + 1, 3, none⟩ = some (.slice none 0 0) := by subst hW; go_simp
  have f3 : W.frozen? ⟨w.heap.size + 1, 3, none⟩ = false := by subst hW; go_simp
  have r4 : W.cell? ⟨w.heap.size + 1, 4, none⟩ = some (.slice none 0 0) := by subst hW; go_simp
  have f4 : W.frozen? ⟨w.heap.size + 1, 4, none⟩ = false := by subst hW; go_simp
  have HW : Below w.heap.size w W := by subst hW; exact (((Below.refl w.heap.size w).alloc (Nat.le_refl _) _).alloc (by simp) _)
  have l0 : w.heap.size < W.heap.size := by subst hW; simp <;> omega
  have l1 : w.heap.size + 1 < W.heap.size := by subst hW; simp
  have n0 : w.heap.size ≠ w.heap.size + 1 := by omega
  rw [← hW]
  clear hW
  replace HW := Lib.hid HW
  refine (HN _).mono ?_
  rintro e w1 ⟨A1, A2, A3, cA1, cA2, cA3, rfl, h1, hb1⟩
  replace s0_0 := keepc hb1 s0_0 l0
  replace s0_1 := keepc hb1 s0_1 l0
  replace s0_2 := keepc hb1 s0_2 l0
  replace r0 := keepc hb1 r0 l1
  replace f0 := keepf hb1 f0 l1
  replace r1 := keepc hb1 r1 l1
  replace f1 := keepf hb1 f1 l1
  replace r2 := keepc hb1 r2 l1
  replace f2 := keepf hb1 f2 l1
  replace r3 := keepc hb1 r3 l1
  replace f3 := keepf hb1 f3 l1
  replace r4 := keepc hb1 r4 l1
  replace f4 := keepf hb1 f4 l1
  replace l0 := Nat.lt_of_lt_of_le l0 hb1.size
  replace l1 := Nat.lt_of_lt_of_le l1 hb1.size
  replace HW := Lib.hid (hstep HW hb1)
  clear hb1
  go_wp2_with fail
  obtain ⟨X, hX⟩ : ∃ X : World, X = set5c w1 (w.heap.size + 1) q A1 A2 A3 cA1 cA2 cA3 := ⟨_, rfl⟩
  have hw : set5c w1 (w.heap.size + 1) q A1 A2 A3 cA1 cA2 cA3 = X := hX.symm
  unfold set5c at hw
  rw [hw]
  clear hw
  have c5 := set5c_self (q := q) (A1 := A1) (A2 := A2) (A3 := A3) (k1 := cA1) (k2 := cA2) (k3 := cA3) r0 r1 r2 r3 r4
  rw [← hX] at c5
  have HX : Hid (Below w.heap.size w X) := by rw [hX]; exact Lib.hid (set5c_below HW.out (by omega))
  have hx := set5c_num3 (q := q) (A1 := A1) (A2 := A2) (A3 := A3) (k1 := cA1) (k2 := cA2) (k3 := cA3) h1 r0
  rw [← hX] at hx
  have lX : w.heap.size + 1 < X.heap.size := by rw [hX, set5c_size]; exact l1
  clear hX
  obtain ⟨Y, hY⟩ : ∃ Y : World, Y = X.alloc (.cells #[.bool (sn (na q)), .slice A1 (ln (ab (na q))) cA1, .bool (sn (nb q)), .slice A2 (ln (ab (nb q))) cA2, .slice A3 (ln (nd q)) cA3] 66) := ⟨_, rfl⟩
  have b1 : Below X.heap.size X Y := by rw [hY]; exact (Below.refl _ _).alloc (Nat.le_refl _) _
  rw [← hY]
  clear hY
  have hy := hx.to b1
  have k0 := keepc b1 c5.1 lX
  have k1 := keepc b1 c5.2.1 lX
  have k2 := keepc b1 c5.2.2.1 lX
  have k3 := keepc b1 c5.2.2.2.1 lX
  have k4 := keepc b1 c5.2.2.2.2 lX
  replace HX := Lib.hid (hstep HX b1)
  clear c5 r0 r1 r2 r3 r4 f0 f1 f2 f3 f4 b1
  exact bodyPost_ret (v := .agg #[.bool (sn (na q)), .slice A1 (ln (ab (na q))) cA1, .bool (sn (nb q)), .slice A2 (ln (ab (nb q))) cA2, .slice A3 (ln (nd q)) cA3]) (by simp [results, Tryz.results53, go_sem, k0, k1, k2, k3, k4]) rfl ⟨A1, A2, A3, cA1, cA2, cA3, rfl, hy, HX.out⟩
/-- 'Of' of the reference. -/
theorem rof_any (a b d : Int) (w : World) (ha : -9223372036854775808 ≤ a ∧ a ≤ 9223372036854775807) (hb : -9223372036854775808 ≤ b ∧ b ≤ 9223372036854775807) (hd : -9223372036854775808 ≤ d ∧ d ≤ 9223372036854775807) :
    Calls Tryz.prog 53 #[.agg #[.int .i64 a, .int .i64 b, .int .i64 d]] w (RetNumC w (ofv a b d)) := by
  by_cases h : d = 0
  · subst h; exact rof_zero0 a b (frz a b 1) w (fun w => rnew_any a b 1 w ha hb (by omega) (by omega))
  · have := rof_more a b d w ha hb hd h
    unfold ofv; rw [if_neg h]; exact this
end Go.Proofs.YtdpjknjlhchmcaaGreat
