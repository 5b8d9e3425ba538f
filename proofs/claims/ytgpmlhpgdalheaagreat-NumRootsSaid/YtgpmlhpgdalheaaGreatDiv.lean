/- 'nat.div': quotient and remainder of two numbers in words. -/
import Derived.Test.YtgpmlhpgdalheaaGreatDivA
import Derived.Deep.DeepCutAuto
import Derived.Deep.CutBlock
namespace Go.Proofs.YtgpmlhpgdalheaaGreat
open Go.RowKit Pl
set_option linter.unusedVariables false

/-- A call hands back two numbers in words. -/
def RetNat2 (w : World) (q r : Nat) (e : Ending) (w' : World) : Prop := ∃ A B, e = .returned (.tuple #[.slice A (ln q) (ln q), .slice B (ln r) (ln r)]) ∧ Nat32 w' A q ∧ Nat32 w' B r ∧ Below w.heap.size w w'

theorem lz_any (y : Nat) (hy : y ≠ 0) (w : World) :
    Calls Tryz.prog 189 #[.int .u32 (wd y (ln y - 1) : Nat)] w fun e w' => e = .returned (.int .i64 (lz y : Nat)) ∧ w = w' := by
  have hb := wd_lt y (ln y - 1)
  refine (Tryz.bits_LeadingZeros32 _ w (by omega) (by omega)).mono ?_
  rintro e w' ⟨rfl, rfl⟩
  refine ⟨ret_int ?_, rfl⟩
  have h := (lz_bounds (wd_last hy) hb).1
  unfold lz
  rw [Int.toNat_natCast]
  omega

theorem two_top {N k : Nat} (h : N < 4294967296 ^ (k + 2)) : N = (wd N (k + 1) * 4294967296 + wd N k) * 4294967296 ^ k + N % 4294967296 ^ k := by
  have h1 := mod_succ N (k + 1)
  have h2 := mod_succ N k
  rw [show k + 1 + 1 = k + 2 by omega, Nat.mod_eq_of_lt h] at h1
  rw [h2, Nat.pow_succ] at h1
  generalize 4294967296 ^ k = p at *
  generalize wd N (k + 1) = a at *
  generalize wd N k = b at *
  generalize N % p = c at *
  have e1 : (a * 4294967296 + b) * p = p * 4294967296 * a + p * b := by
    rw [Nat.add_mul, Nat.mul_comm b, Nat.mul_comm a, Nat.mul_comm p 4294967296, Nat.mul_assoc, Nat.mul_assoc, Nat.mul_comm a]
  rw [e1]; omega
theorem mulad (a b p : Nat) : (a * 4294967296 + b) * p = a * (p * 4294967296) + p * b := by
    rw [Nat.add_mul, Nat.mul_comm b, Nat.mul_assoc, Nat.mul_comm p 4294967296]
theorem three_top {N k : Nat} (h : N < 4294967296 ^ (k + 3)) : N = ((wd N (k + 2) * 4294967296 + wd N (k + 1)) * 4294967296 + wd N k) * 4294967296 ^ k + N % 4294967296 ^ k := by
  have h1 := two_top (N := N) (k := k + 1) (by rw [show k + 1 + 2 = k + 3 by omega]; exact h)
  have h2 := mod_succ N k
  have h3 : (4294967296:Nat) ^ (k + 1) = 4294967296 ^ k * 4294967296 := Nat.pow_succ _ _
  have h4 := mulad (wd N (k + 2) * 4294967296 + wd N (k + 1)) (wd N k) (4294967296 ^ k)
  rw [h2, h3] at h1
  rw [h4]
  have h5 : wd N (k + 1 + 1) = wd N (k + 2) := rfl
  rw [h5, ← Nat.add_assoc] at h1
  rw [Nat.add_assoc, Nat.add_comm (4294967296 ^ k * wd N k), ← Nat.add_assoc]
  exact h1

theorem Nat32.setOther {w : World} {b n : Nat} (h : Nat32 w (some ⟨b, 0, none⟩) n) {p : Addr} (hp : p.block ≠ b) (u : Value) : Nat32 (w.setCell p u) (some ⟨b, 0, none⟩) n := fun hn => by
  obtain ⟨b3, e3, hlt3, hc3⟩ := h hn
  injection e3 with e3; injection e3 with e3
  subst e3
  exact ⟨b, rfl, by simpa [World.setCell] using hlt3, fun i hi => (World.cell?_of_block (Below.heap_setCell _ _ _ _ (by show b ≠ p.block; omega))).trans (hc3 i hi)⟩

/-- The row behind a step of the division. -/
theorem seg_done {Z R D j n i : Nat} (hlow : R % 4294967296 ^ j = Z % 4294967296 ^ j) (hD : ∀ k, k < n + 1 → wd D k = wd (R / 4294967296 ^ j) k) (hR : R / 4294967296 ^ j < 4294967296 ^ (n + 1)) (hZ : Z / 4294967296 ^ j < 4294967296 ^ (n + 1)) : seg Z D j (n + 1) i = rowN R i := by
  unfold seg rowN
  by_cases h : j ≤ i ∧ i < j + (n + 1)
  · rw [if_pos h, hD (i - j) (by omega), wd_div, show j + (i - j) = i by omega]
  · rw [if_neg h]
    by_cases h2 : i < j
    · have e1 := wd_add_high (Z % 4294967296 ^ j) (Z / 4294967296 ^ j) j i h2
      have e2 := wd_add_high (R % 4294967296 ^ j) (R / 4294967296 ^ j) j i h2
      rw [Nat.mod_add_div] at e1 e2
      rw [e1, e2, hlow]
    · have e1 := wd_div Z j (i - j)
      have e2 := wd_div R j (i - j)
      rw [show j + (i - j) = i by omega] at e1 e2
      rw [← e1, ← e2, wd_top hZ (by omega), wd_top hR (by omega)]

theorem tk_words {W X n k : Nat} (hX : X ≤ W) (hk : k < n + 1) : wd (tk W X n) k = wd (W - X) k := by
  unfold tk
  rw [show W + 4294967296 ^ (n + 1) - X = (W - X) + 4294967296 ^ (n + 1) * 1 by omega]
  exact wd_add_high _ _ _ _ hk

theorem back_words {W X V n k : Nat} (hX : W < X) (hXV : X - V ≤ W) (hV : V ≤ X) (hb : X ≤ W + 4294967296 ^ (n + 1)) (hk : k < n + 1) : wd (tk W X n + V) k = wd (W - (X - V)) k := by
  unfold tk
  rw [show W + 4294967296 ^ (n + 1) - X + V = (W - (X - V)) + 4294967296 ^ (n + 1) * 1 by omega]
  exact wd_add_high _ _ _ _ hk

/-- The row while the divisor is added back. -/
def seg2 (u d e j n k i : Nat) : Value := if j ≤ i ∧ i < j + k then .int .u32 (wd e (i - j) : Nat) else seg u d j n i
theorem seg2_zero (u d e j n i : Nat) : seg u d j n i = seg2 u d e j n 0 i := by unfold seg2; rw [if_neg (by omega)]
theorem seg2_at {u d e j n k : Nat} (hk : k < n) : seg2 u d e j n k (k + j) = .int .u32 (wd d k : Nat) := by
  unfold seg2 seg; rw [if_neg (by omega), if_pos (by omega), show k + j - j = k by omega]
theorem seg2_step {u d e j n k i : Nat} {v : Value} (hv : v = .int .u32 (wd e k : Nat)) : (if i = k + j then v else seg2 u d e j n k i) = seg2 u d e j n (k + 1) i := by
  unfold seg2
  by_cases h : i = k + j
  · subst h; rw [if_pos rfl, hv, if_pos (by omega), show k + j - j = k by omega]
  · rw [if_neg h]
    by_cases h2 : j ≤ i ∧ i < j + k
    · rw [if_pos h2, if_pos (by omega)]
    · rw [if_neg h2, if_neg (by omega)]
theorem seg2_all (u d e j n i : Nat) : seg2 u d e j n n i = seg u e j n i := by
  unfold seg2 seg
  by_cases h : j ≤ i ∧ i < j + n
  · rw [if_pos h, if_pos h]
  · rw [if_neg h, if_neg h, if_neg h]

set_option maxRecDepth 100000 in
set_option maxHeartbeats 4000000 in
theorem div_main (x y : Nat) (A B : Option Addr) (w : World) (hx : Nat32 w A x) (hy : Nat32 w B y) (hbx : ln x ≤ 1099511627776) (hby : ln y ≤ 1099511627776) (hle : y ≤ x) (hl2 : 2 ≤ ln y) :
    Calls Tryz.prog 159 #[.slice A (ln x) (ln x), .slice B (ln y) (ln y)] w (RetNat2 w (x / y) (x % y)) := by
  have hll := ln_mono hle
  have hy0 : y ≠ 0 := fun e => by rw [e, ln_zero] at hl2; omega
  have hcmp : decide (cmpN x y < 0) = false := by
    unfold cmpN; rw [if_neg (by omega)]; split <;> rfl
  have t1 : ((ln y : Int) == 1) = false := by simpa using fun e => by omega
  have hmk := mk_nat (ln x + 1) (by omega)
  have ec : ((ln x + 1 : Nat) : Int) = (ln x : Int) + 1 := by omega
  rw [ec] at hmk
  have hmk2 := mk_nat (ln x + 1 - ln y) (by omega)
  have ec2 : ((ln x + 1 - ln y : Nat) : Int) = (ln x : Int) + 1 - (ln y : Int) := by omega
  rw [ec2] at hmk2
  clear ec ec2
  have hlz := lz_le y hy0
  have HN := Lib.hid (norm_y hy0)
  have HT := Lib.hid (ur_top hy0 hll)
  have hdm : x / y = (x * 2 ^ lz y) / (y * 2 ^ lz y) ∧ x % y = (x * 2 ^ lz y) % (y * 2 ^ lz y) / 2 ^ lz y := by
    have hp : 0 < 2 ^ lz y := Nat.pow_pos (by omega)
    exact ⟨(Nat.mul_div_mul_right _ _ hp).symm, by rw [Nat.mul_mod_mul_right, Nat.mul_div_cancel _ hp]⟩
  obtain ⟨V, hVe⟩ : ∃ V, V = y * 2 ^ lz y := ⟨_, rfl⟩
  obtain ⟨U, hUe⟩ : ∃ U, U = x * 2 ^ lz y := ⟨_, rfl⟩
  rw [← hVe] at HN HT hdm
  rw [← hUe] at HT hdm
  have HV := Lib.hid hVe
  have HU := Lib.hid hUe
  have HD := Lib.hid hdm
  clear hVe hUe hdm
  have HL : Hid (ln V = ln y) := by
    have h := HN.out
    show ln V = ln y
    have h1 := ln_le h.1
    have h2 : ln y - 1 < ln V := ln_gt (Nat.le_trans (by have := pow_pos' (ln y - 1); omega) h.2)
    omega
  have HUL : Hid (ln U ≤ ln x + 1) := by
    show ln U ≤ ln x + 1
    apply ln_le
    rw [HU.out, Nat.pow_succ]
    have h1 := lt_ln x
    have h2 : 2 ^ lz y ≤ 4294967296 := Nat.pow_le_pow_right (n := 2) (by omega) (show lz y ≤ 32 by omega)
    exact Nat.lt_of_lt_of_le (Nat.mul_lt_mul_of_pos_right h1 (Nat.pow_pos (by omega))) (Nat.mul_le_mul_left _ h2)
  go_enter Tryz.func159, Tryz.ntmps159
  go_wp2_with fail
  refine (cmp_any x y A B w hx hy (by omega)).mono ?_
  rintro e w1 ⟨rfl, hb1⟩
  have hx1 := hx.to hb1
  have hy1 := hy.to hb1
  have HC := Lib.hid hb1
  obtain ⟨b, rfl, hb, hcy⟩ := hy1 hy0
  have hyc := hcy (ln y - 1) (by omega)
  clear hx hy hb1 hcy
  go_wp2_with fail
  refine (lz_any y hy0 w1).mono ?_
  rintro e w' ⟨rfl, rfl⟩
  clear hyc
  go_wp2_with fail
  have hs1 := shl_any y (lz y) _ w1 hy1 (by omega) (by omega)
  rw [← HV.out] at hs1
  refine hs1.mono ?_
  clear hs1
  rintro e w2 ⟨AV, rfl, hV, hb2⟩
  rw [HL.out]
  have hx2 := (hx1.to hb2).alloc (.cells (madeCells #[.int .u32 0] (ln x + 1)) 45)
  have hV2 := hV.alloc (.cells (madeCells #[.int .u32 0] (ln x + 1)) 45)
  have hru := (World.rowIs_made w2 (.int .u32 0) (ln x + 1) 45).congr (g := rowN 0) fun j _ => (rowN_zero j).symm
  go_wp2_with fail
  have hs2 := shl_any x (lz y) _ _ hx2 (by omega) (by omega)
  rw [← HU.out] at hs2
  refine hs2.mono ?_
  clear hs2
  rintro e w3 ⟨AU, rfl, hU, hb3⟩
  have hV3 := hV2.to hb3
  have hru3 := hru.of_block (hb3.block _ (by simp))
  go_wp2_with (with_reducible refine wpList_copy_words rfl (.tmp 56) (.tmp 59) _ _ rfl 45 Tryz.und_nat Tryz.size_u32 _ _ _ _ _ rfl rfl hru3 hU ?_ ?_)
  · exact HUL.out
  intro w4 hru4 hg4
  have hV4 : Nat32 w4 AV V := fun hv0 => by
    obtain ⟨b2, e2, hlt2, hc2⟩ := hV hv0
    refine ⟨b2, e2, ?_, fun j hj => ?_⟩
    · have := hb3.size; have := hg4.size; simp at *; omega
    · have hb3s := hb3.size
      simp at hb3s
      refine (grown_cell hg4 (by omega) (by omega)).trans ((hb3.cell (p := ⟨b2, j, none⟩) (by simp; omega)).trans ?_)
      exact (World.cell?_alloc_lt _ _ _ hlt2).trans (hc2 j hj)
  have hBV : ∀ b2, AV = some ⟨b2, 0, none⟩ → b2 < w2.heap.size := fun b2 e2 => by
    have hv0 : V ≠ 0 := fun e => by have := HL.out; rw [e, ln_zero] at this; omega
    obtain ⟨b3, e3, hlt3, _⟩ := hV hv0
    rw [e2] at e3; injection e3 with e3; injection e3 with e3; omega
  have hbel4 : Below w.heap.size w w4 := by
    have h2 := HC.out.trans (hb2.mono HC.out.size)
    have h3 := (h2.alloc (by have := h2.size; exact this) (.cells (madeCells #[.int .u32 0] (ln x + 1)) 45)).trans (hb3.mono (by have := h2.size; simp; omega))
    exact h3.grown hg4 (by have := h3.size; exact this) (fun k e => by injection e with e; have := h2.size; omega)
  obtain ⟨gU, hgU⟩ : ∃ gU, gU = w2.heap.size := ⟨_, rfl⟩
  have hgUw : w.heap.size ≤ gU := by have h2 := HC.out.trans (hb2.mono HC.out.size); have := h2.size; omega
  rw [← hgU] at hru4 hBV ⊢
  have HBV := Lib.hid hBV
  clear hBV hg4 hb3 hru3 hV3 hU hV hV2 hru hx2 hb2 hgU hx1 hy1
  obtain ⟨L, hL⟩ : ∃ L, L = ln x + 1 - ln y := ⟨_, rfl⟩
  have hmk3 := fun wz => hmk2 wz
  rw [← hL] at hmk3
  have HLe := Lib.hid hL
  have hL1 : 1 ≤ L := by omega
  have hLn : L ≤ 1099511627777 := by omega
  clear hL hmk2 hmk
  go_wp2_with fail
  have hrq := (World.rowIs_made w4 (.int .u32 0) L 45).congr (g := above (U / V) L) fun j hj => (above_all _ hj).symm
  have hru5 := (hru4.alloc (.cells (madeCells #[.int .u32 0] L) 45)).congr (g := rowN (ur U V L)) fun j _ => by rw [ur_all (by rw [HLe.out]; exact HT.out)]
  have hV5 := hV4.alloc (.cells (madeCells #[.int .u32 0] L) 45)
  have hbel5 := hbel4.alloc (by have := hbel4.size; exact this) (.cells (madeCells #[.int .u32 0] L) 45)
  obtain ⟨gQ, hgQ⟩ : ∃ gQ, gQ = w4.heap.size := ⟨_, rfl⟩
  have hgUQ : gU < gQ := by rw [hgQ]; exact hru4.lt
  rw [← hgQ] at hrq ⊢
  clear hgQ hru4 hV4 hbel4 hmk3
  go_loopw [13] (fun i wr => ∃ (k : Nat) (iv : Int), k ≤ L ∧ iv = (k : Int) - 1 ∧ i = .int .i64 iv ∧ wr.rowIs gU 45 (ln x + 1) (rowN (ur U V k)) ∧ wr.rowIs gQ 45 L (above (U / V) k) ∧ Nat32 wr AV V ∧ Below w.heap.size w wr) (fun i _ => (intOf i + 1).toNat)
  case atStart => exact ⟨L, _, Nat.le_refl _, rfl, rfl, hru5, hrq, hV5, hbel5⟩
  case round =>
    obtain ⟨k, iv, hk, hiv, rfl, hru, hrq', hVr, hbel⟩ := hrel
    clear hru5 hrq hV5 hbel5
    by_cases hk0 : 0 < k
    · obtain ⟨j, rfl⟩ : ∃ j, k = j + 1 := ⟨k - 1, by omega⟩
      obtain rfl : iv = (j : Int) := by omega
      clear hiv
      have hV0 : V ≠ 0 := fun e => by have := HL.out; rw [e, ln_zero] at this; omega
      have HS := Lib.hid (ur_step (u := U) (V := V) (j := j) (by omega))
      obtain ⟨Z, hZ⟩ : ∃ Z, Z = ur U V (j + 1) := ⟨_, rfl⟩
      rw [← hZ] at hru HS
      have HZ := Lib.hid hZ
      clear hZ
      obtain ⟨b2, rfl, hlt2, hcv⟩ := hVr hV0
      have hb2g := HBV.out b2 rfl
      have hjm : j + ln y < ln x + 1 := by have := HLe.out; omega
      have c0 := hru.cell (i := j + ln y) (by omega)
      have c1 := hru.cell (i := j + ln y - 1) (by omega)
      have c2 := hru.cell (i := j + ln y - 2) (by omega)
      have d1 := hcv (ln y - 1) (by have := HL.out; omega)
      have d2 := hcv (ln y - 2) (by have := HL.out; omega)
      unfold rowN at c0 c1 c2
      obtain ⟨z0, hz0⟩ : ∃ z, z = wd Z (j + ln y) := ⟨_, rfl⟩
      obtain ⟨z1, hz1⟩ : ∃ z, z = wd Z (j + ln y - 1) := ⟨_, rfl⟩
      obtain ⟨z2, hz2⟩ : ∃ z, z = wd Z (j + ln y - 2) := ⟨_, rfl⟩
      obtain ⟨vt, hvt⟩ : ∃ z, z = wd V (ln y - 1) := ⟨_, rfl⟩
      obtain ⟨vs, hvs⟩ : ∃ z, z = wd V (ln y - 2) := ⟨_, rfl⟩
      rw [← hz0] at c0
      rw [← hz1] at c1
      rw [← hz2] at c2
      rw [← hvt] at d1
      rw [← hvs] at d2
      have bz0 : z0 < 4294967296 := by rw [hz0]; exact wd_lt _ _
      have bz1 : z1 < 4294967296 := by rw [hz1]; exact wd_lt _ _
      have bz2 : z2 < 4294967296 := by rw [hz2]; exact wd_lt _ _
      have bvt : vt < 4294967296 := by rw [hvt]; exact wd_lt _ _
      have bvs : vs < 4294967296 := by rw [hvs]; exact wd_lt _ _
      have bvt2 : 2147483648 ≤ vt := by
        rw [hvt, ← HL.out, top_word hV0, HL.out]
        exact (Nat.le_div_iff_mul_le (pow_pos' _)).2 HN.out.2
      have H0 := Lib.hid hz0
      have H1 := Lib.hid hz1
      have H2 := Lib.hid hz2
      have HT1 := Lib.hid hvt
      have HS1 := Lib.hid hvs
      clear hz0 hz1 hz2 hvt hvs hcv
      obtain ⟨top, htop⟩ : ∃ t, t = z0 * 4294967296 + z1 := ⟨_, rfl⟩
      have hor := hl_or bz0 bz1
      rw [← htop] at hor
      have btop : top < 18446744073709551616 := by omega
      obtain ⟨g0, hg0⟩ : ∃ t, t = top / vt := ⟨_, rfl⟩
      obtain ⟨r0, hr0⟩ : ∃ t, t = top % vt := ⟨_, rfl⟩
      have bg0 : g0 < 8589934592 := by rw [hg0]; exact (Nat.div_lt_iff_lt_mul (by omega)).2 (by omega)
      have br0 : r0 < vt := by rw [hr0]; exact Nat.mod_lt _ (by omega)
      have e1 : IntKind.u64.wrap ((top : Int) / (vt : Int)) = (g0 : Nat) := by
        rw [← Int.natCast_ediv, ← hg0, IntKind.wrap_u64]; omega
      have e2 : (top : Int) % (vt : Int) = (r0 : Nat) := by rw [← Int.natCast_emod, ← hr0]
      have HTO := Lib.hid htop
      have HG := Lib.hid hg0
      have HR := Lib.hid hr0
      clear htop hg0 hr0
      go_wp2_with fail
      go_quiet (fail)
      go_wp2_with fail
      go_quiet (fail)
      obtain ⟨W, hW⟩ : ∃ t, t = Z / 4294967296 ^ j := ⟨_, rfl⟩
      obtain ⟨q, hq⟩ : ∃ t, t = W / V := ⟨_, rfl⟩
      have HVd := Lib.hid (show V = (vt * 4294967296 + vs) * 4294967296 ^ (ln y - 2) + V % 4294967296 ^ (ln y - 2) by
        rw [HT1.out, HS1.out]
        have h := two_top (N := V) (k := ln y - 2) (by rw [show ln y - 2 + 2 = ln y by omega]; exact HN.out.1)
        rw [show ln y - 2 + 1 = ln y - 1 by omega] at h
        exact h)
      have HWV := Lib.hid (show W < V * 4294967296 by rw [hW]; exact HS.out.2.1)
      have HWd := Lib.hid (show W = (top * 4294967296 + z2) * 4294967296 ^ (ln y - 2) + W % 4294967296 ^ (ln y - 2) by
        have hWn : W < 4294967296 ^ (ln y - 2 + 3) := by
          rw [show ln y - 2 + 3 = ln y + 1 by omega, Nat.pow_succ]
          exact Nat.lt_trans HWV.out (Nat.mul_lt_mul_of_pos_right HN.out.1 (by omega))
        have h := three_top hWn
        rw [hW, wd_div, wd_div, wd_div, ← hW, show j + (ln y - 2 + 2) = j + ln y by omega, show j + (ln y - 2 + 1) = j + ln y - 1 by omega, show j + (ln y - 2) = j + ln y - 2 by omega, ← H0.out, ← H1.out, ← H2.out, ← HTO.out] at h
        exact h)
      have HQ := Lib.hid hq
      have HW := Lib.hid hW
      have hqV : q * V ≤ W := by rw [hq]; exact Nat.div_mul_le_self _ _
      have HQV := Lib.hid hqV
      clear hW hq hqV
      have HP := Lib.hid (Nat.mod_lt V (pow_pos' (ln y - 2)))
      have HP2 := Lib.hid (Nat.mod_lt W (pow_pos' (ln y - 2)))
      go_upto_block 2 with fail
      go_cut [15] from 106 to 141 (fun g wx => ∃ gv : Nat, g = .int .u64 gv ∧ gv < 4294967296 ∧ (gv = q ∨ gv = q + 1) ∧ ∃ n, wx = wr.drewN n)
      case first =>
        go_wp2_with fail
        go_loopw [15, 16] (fun g r wx => ∃ gv rv : Nat, g = .int .u64 gv ∧ r = .int .u64 rv ∧ gv * vt + rv = top ∧ q ≤ gv ∧ rv < 4294967296 ∧ gv < 8589934592 ∧ ∃ n, wx = wr.drewN n) (fun g _ _ => (intOf g).toNat)
        case atStart => exact ⟨g0, r0, rfl, int_val e2, by rw [HG.out, HR.out, Nat.mul_comm]; exact Nat.div_add_mod _ _, by rw [HG.out]; exact kd_ge HVd.out HWd.out HP2.out bz2 (by omega) HQV.out, by omega, bg0, _, (World.drewN_drewN _ _ _)⟩
        case round =>
          clear btop hor e1 e2 c0 c1
          obtain ⟨gv, rv, rfl, rfl, hgr, hqg, hrv, hgv, n', rfl⟩ := hrel
          have HGR := Lib.hid hgr
          clear hgr
          by_cases hbig : 4294967296 ≤ gv
          · have hd : decide ((4294967296 : Int) ≤ (gv : Int)) = true := by
              rw [decide_eq_true_eq]; omega
            have hqlt : q < gv := kd_dec HVd.out HWd.out HP2.out HWV.out HGR.out (.inl hbig) HQV.out hqg
            go_wp2_with fail
            go_quiet (fail)
            have hg1 : (gv : Int) - 1 = ((gv - 1 : Nat) : Int) := by omega
            have HOUT := Lib.hid (fun hr : 4294967296 ≤ rv + vt => kd_out HVd.out HP.out bvs HWd.out HWV.out (show (gv - 1) * vt + (rv + vt) = top by rw [← HGR.out, Nat.sub_mul, Nat.one_mul]; have := Nat.le_mul_of_pos_left vt (show 0 < gv by omega); omega) hr)
            have HGR2 := Lib.hid (show (gv - 1) * vt + (rv + vt) = top by rw [← HGR.out, Nat.sub_mul, Nat.one_mul]; have := Nat.le_mul_of_pos_left vt (show 0 < gv by omega); omega)
            by_cases hr : 4294967296 ≤ rv + vt
            · have hr2 : decide ((4294967296 : Int) ≤ (rv : Int) + (vt : Int)) = true := by
                rw [decide_eq_true_eq]; omega
              go_wp2_with fail
              go_meet
              exact ⟨gv - 1, by rw [← hg1], (HOUT.out hr).1, .inl (by
                have h1 := (Nat.le_div_iff_mul_le (by omega)).2 (HOUT.out hr).2
                rw [← HQ.out] at h1; omega), _, rfl⟩
            · have hr2 : decide ((4294967296 : Int) ≤ (rv : Int) + (vt : Int)) = false := by
                rw [decide_eq_false_iff_not]; omega
              go_wp2_with fail
              go_roundw
              case rel => exact ⟨gv - 1, rv + vt, by rw [← hg1], by go_num, HGR2.out, by omega, by omega, by omega, _, rfl⟩
              case measure => simp [intOf]; omega
          · have hd : decide ((4294967296 : Int) ≤ (gv : Int)) = false := by
              rw [decide_eq_false_iff_not]; omega
            obtain ⟨ru, hru0⟩ : ∃ t, t = rv * 4294967296 + z2 := ⟨_, rfl⟩
            have hor := hl_or hrv bz2
            rw [← hru0] at hor
            have HRU := Lib.hid hru0
            have hp1 := prod_le (show gv < 4294967296 by omega) bvs
            have hp0 : 0 ≤ (gv : Int) * (vs : Int) := Int.mul_nonneg (by omega) (by omega)
            have hp2 : ((gv * vs : Nat) : Int) = (gv : Int) * (vs : Int) := Int.natCast_mul _ _
            by_cases hlt : ru < gv * vs
            · have hd2 : decide ((ru : Int) < (gv : Int) * (vs : Int)) = true := by
                rw [decide_eq_true_eq]; omega
              have hqlt : q < gv := kd_dec HVd.out HWd.out HP2.out HWV.out HGR.out (.inr (by rw [← hru0]; exact hlt)) HQV.out hqg
              clear hru0 hp2
              go_wp2_with fail
              go_quiet (fail)
              have hg1 : (gv : Int) - 1 = ((gv - 1 : Nat) : Int) := by omega
              have HOUT := Lib.hid (fun hr : 4294967296 ≤ rv + vt => kd_out HVd.out HP.out bvs HWd.out HWV.out (show (gv - 1) * vt + (rv + vt) = top by rw [← HGR.out, Nat.sub_mul, Nat.one_mul]; have := Nat.le_mul_of_pos_left vt (show 0 < gv by omega); omega) hr)
              have HGR2 := Lib.hid (show (gv - 1) * vt + (rv + vt) = top by rw [← HGR.out, Nat.sub_mul, Nat.one_mul]; have := Nat.le_mul_of_pos_left vt (show 0 < gv by omega); omega)
              by_cases hr : 4294967296 ≤ rv + vt
              · have hr2 : decide ((4294967296 : Int) ≤ (rv : Int) + (vt : Int)) = true := by
                  rw [decide_eq_true_eq]; omega
                go_wp2_with fail
                go_meet
                exact ⟨gv - 1, by rw [← hg1], (HOUT.out hr).1, .inl (by
                  have h1 := (Nat.le_div_iff_mul_le (by omega)).2 (HOUT.out hr).2
                  rw [← HQ.out] at h1; omega), _, rfl⟩
              · have hr2 : decide ((4294967296 : Int) ≤ (rv : Int) + (vt : Int)) = false := by
                  rw [decide_eq_false_iff_not]; omega
                go_wp2_with fail
                go_roundw
                case rel => exact ⟨gv - 1, rv + vt, by rw [← hg1], by go_num, HGR2.out, by omega, by omega, by omega, _, rfl⟩
                case measure => simp [intOf]; omega
            · have hd2 : decide ((ru : Int) < (gv : Int) * (vs : Int)) = false := by
                rw [decide_eq_false_iff_not]; omega
              have HF := Lib.hid (kd_fit HVd.out HP.out (by omega) HWd.out HGR.out (by omega) (by rw [← hru0]; omega))
              clear hru0 hp2
              go_wp2_with fail
              go_quiet (fail)
              go_wp2_with fail
              go_meet
              exact ⟨gv, rfl, by omega, kd_word hqg (by
                have h1 := Nat.lt_mul_div_succ W (show 0 < V by omega)
                rw [← HQ.out, Nat.mul_comm] at h1; exact h1) HF.out, _, World.drewN_drewN _ _ _⟩
      case rest =>
        clear btop hor e1 e2 c0 c1 c2 d1 d2
        obtain ⟨gv, rfl, hgv, hgq, n', rfl⟩ := hcut
        have hZU : Z < 4294967296 ^ (j + ln y + 1) := by
          have h1 : Z / 4294967296 ^ j < 4294967296 ^ (ln y + 1) := by
            rw [← HW.out, Nat.pow_succ]; exact Nat.lt_trans HWV.out (Nat.mul_lt_mul_of_pos_right HN.out.1 (by omega))
          rw [Nat.div_lt_iff_lt_mul (pow_pos' j), ← Nat.pow_add, show ln y + 1 + j = j + ln y + 1 by omega] at h1
          exact h1
        have HZU := Lib.hid hZU
        clear hZU
        go_wp2_with fail
        refine (take_any (wr.drewN n') gU (ln x + 1) (ln y) j Z V gv _ (by omega) (by omega) HL.out.symm hgv hru hVr (by intro e; injection e with e; injection e with e; omega) HZU.out).mono ?_
        rintro e w6 ⟨rfl, hru6, hg6⟩
        rw [← HW.out] at hru6 ⊢
        have hb6 : Below w.heap.size w w6 := (below_drewN hbel n').grown hg6 (by have := hbel.size; exact this) (fun k e => by injection e with e; omega)
        have hrq6 : w6.rowIs gQ 45 L (above (U / V) (j + 1)) := hrq'.of_block (hg6.block gQ hrq'.lt (by intro e; injection e with e; omega))
        have hV6 : Nat32 w6 (some ⟨b2, 0, none⟩) V := fun hv => by
          obtain ⟨b3, e3, hlt3, hc3⟩ := hVr hv
          injection e3 with e3; injection e3 with e3
          subst e3
          exact ⟨b2, rfl, Nat.lt_of_lt_of_le hlt3 hg6.size, fun i hi => (grown_cell hg6 (b := b2) hlt3 (by omega)).trans (hc3 i hi)⟩
        have HWl := Lib.hid (show W < 4294967296 ^ (ln y + 1) by
          rw [Nat.pow_succ]; exact Nat.lt_trans HWV.out (Nat.mul_lt_mul_of_pos_right HN.out.1 (by omega)))
        have HRl := Lib.hid (show ur U V j / 4294967296 ^ j = W - q * V by
          rw [HS.out.2.2.1, ← HW.out, HQ.out]
          have h1 := Nat.div_add_mod W V
          rw [Nat.mul_comm] at h1; omega)
        have HQJ := Lib.hid (show q = wd (U / V) j by rw [HQ.out, HW.out]; exact HS.out.1)
        clear hru hrq' hVr hbel hg6 hlt2
        rcases hgq with rfl | rfl
        · have hnt : decide (W < gv * V) = false := by
            rw [decide_eq_false_iff_not]; have := HQV.out; omega
          have hru7 : w6.rowIs gU 45 (ln x + 1) (rowN (ur U V j)) := hru6.congr fun i _ => seg_done (HS.out.2.2.2) (fun k hk => by rw [HRl.out]; exact tk_words HQV.out hk) (by rw [HRl.out]; have := HWl.out; omega) (by rw [← HW.out]; exact HWl.out)
          have hst := hrq6.cell (i := j) (by omega)
          have hfr := hrq6.frozen j
          clear hru6
          go_wp2_with fail
          go_roundw
          case rel => exact ⟨j, (j : Int) - 1, by omega, rfl, rfl, hru7.setOther (by show gU ≠ gQ; omega) _, (hrq6.set _ _).congr fun i _ => above_step (by omega) (int_val (by rw [Nat.add_sub_cancel, ← HQJ.out])), hV6.setOther (by show gQ ≠ b2; omega) _, hb6.setCell (by show w.heap.size ≤ gQ; omega) _⟩
          case measure => simp [intOf] <;> omega
        · have hnt : decide (W < (q + 1) * V) = true := by
            rw [decide_eq_true_eq]
            have h1 := Nat.lt_mul_div_succ W (show 0 < V by omega)
            rw [← HQ.out, Nat.mul_comm] at h1; exact h1
          obtain ⟨X, hX⟩ : ∃ t, t = (q + 1) * V := ⟨_, rfl⟩
          have hX1 : X = q * V + V := by rw [hX, Nat.add_mul, Nat.one_mul]
          have HXW := Lib.hid (show W < X by rw [hX]; simpa using hnt)
          rw [← hX] at hru6 hnt ⊢
          have HX1 := Lib.hid hX1
          clear hX hX1
          obtain ⟨D, hD⟩ : ∃ t, t = tk W X (ln y) := ⟨_, rfl⟩
          rw [← hD] at hru6
          have HDX := Lib.hid (show ∀ k, k < ln y + 1 → wd (D + V) k = wd (W - q * V) k from fun k hk => by
            have h0 : X - V = q * V := by rw [HX1.out]; omega
            have h1 := back_words (W := W) (X := X) (V := V) (n := ln y) (k := k) HXW.out (by rw [h0]; exact HQV.out) (by rw [HX1.out]; omega) (by have := HQV.out; have := HX1.out; have := HN.out.1; have h9 : (4294967296 : Nat) ^ ln y ≤ 4294967296 ^ (ln y + 1) := Nat.pow_le_pow_right (by omega) (by omega); omega) hk
            rw [h0, ← hD] at h1; exact h1)
          clear hD
          have hruA := hru6.congr (g := seg2 Z D (D + V) j (ln y + 1) 0) fun i _ => seg2_zero _ _ _ _ _ _
          have hq1 : ((q + 1 : Nat) : Int) - 1 = (q : Int) := by omega
          clear hru6
          go_wp2_with fail
          go_loopw [17, 151] (fun c i wx => ∃ k : Nat, k ≤ ln y ∧ i = .int .i64 k ∧ c = .int .u64 (cr D V k : Nat) ∧ wx.rowIs gU 45 (ln x + 1) (seg2 Z D (D + V) j (ln y + 1) k) ∧ wx.rowIs gQ 45 L (above (U / V) (j + 1)) ∧ Nat32 wx (some ⟨b2, 0, none⟩) V ∧ Below w.heap.size w wx) (fun _ i _ => ln y - (intOf i).toNat)
          case atStart => exact ⟨0, Nat.zero_le _, rfl, by rw [cr_zero]; rfl, hruA, hrq6, hV6, hb6⟩
          case round =>
            obtain ⟨k, hk, rfl, rfl, hruk, hrqk, hVk, hbk⟩ := hrel
            clear hruA hrq6 hV6 hb6
            have bc := cr_le D V k
            by_cases hlt : k < ln y
            · obtain ⟨b3, e3, hlt3, hc3⟩ := hVk hV0
              injection e3 with e3; injection e3 with e3
              subst e3
              have hvk := hc3 k (by have := HL.out; omega)
              have hst := hruk.cell (i := k + j) (by omega)
              rw [seg2_at (by omega)] at hst
              have hfr := hruk.frozen (k + j)
              have bD := wd_lt D k
              have bV := wd_lt V k
              clear hc3
              have HC1 := Lib.hid (cr_word D V k)
              have HC2 := Lib.hid (cr_step D V k)
              go_wp2_with fail
              go_roundw
              case rel => exact ⟨k + 1, by omega, by go_num, int_val (by have := HC2.out; omega), (hruk.set _ _).congr fun i _ => seg2_step (int_val (by have := HC1.out; omega)), hrqk.setOther (by show gQ ≠ gU; omega) _, hVk.setOther (by show gU ≠ b2; omega) _, hbk.setCell (by show w.heap.size ≤ gU; omega) _⟩
              case measure => simp [intOf]; omega
            · obtain rfl : k = ln y := by omega
              have hst := hruk.cell (i := ln y + j) (by omega)
              rw [seg2_at (by omega), Nat.add_comm (ln y) j] at hst
              have hfr := hruk.frozen (j + ln y)
              have bD := wd_lt D (ln y)
              have hst2 := hrqk.cell (i := j) (by omega)
              have hfr2 := hrqk.frozen j
              have HC1 := Lib.hid (cr_word D V (ln y))
              have HV0 := Lib.hid (show wd V (ln y) = 0 from wd_top HN.out.1 (Nat.le_refl _))
              go_wp2_with fail
              go_roundw
              case rel => exact ⟨j, (j : Int) - 1, by omega, rfl, rfl, (((hruk.set _ _).congr (g := rowN (ur U V j)) fun i _ => by
                  rw [Nat.add_comm j (ln y), seg2_step (int_val (by have h1 := HC1.out; have h2 := HV0.out; omega)), seg2_all]
                  exact seg_done HS.out.2.2.2 (fun k hk => by rw [HDX.out k hk, HRl.out]) (by rw [HRl.out]; have := HWl.out; omega) (by rw [← HW.out]; exact HWl.out))).setOther (by show gU ≠ gQ; omega) _, ((hrqk.setOther (by show gQ ≠ gU; omega) _).set _ _).congr fun i _ => above_step (by omega) (int_val (by rw [Nat.add_sub_cancel, ← HQJ.out])), (hVk.setOther (by show gU ≠ b2; omega) _).setOther (by show gQ ≠ b2; omega) _, (hbk.setCell (by show w.heap.size ≤ gU; omega) _).setCell (by show w.heap.size ≤ gQ; omega) _⟩
              case measure => simp [intOf] <;> omega
    · obtain rfl : k = 0 := by omega
      have HQ0 := Lib.hid (show U / V < 4294967296 ^ L from (by
        rw [Nat.div_lt_iff_lt_mul (by have := HN.out.2; have := pow_pos' (ln y - 1); omega), Nat.mul_comm, HLe.out]; exact HT.out))
      have HR0 := Lib.hid (show ur U V 0 = U % V from ur_zero U V)
      have HUV := Lib.hid (show U % V < 4294967296 ^ ln y from Nat.lt_trans (Nat.mod_lt _ (by have := HN.out.2; have := pow_pos' (ln y - 1); omega)) HN.out.1)
      have hruV := hru.congr (g := rowN (U % V)) fun i _ => by rw [HR0.out]
      have HQC := Lib.hid (show ∀ i, i < L → wr.cell? ⟨gQ, i, none⟩ = some (.int .u32 (wd (U / V) i : Nat)) from fun i hi => by rw [← above_zero]; exact hrq'.cell hi)
      have HUC := Lib.hid (show ∀ i, i < ln y → wr.cell? ⟨gU, i, none⟩ = some (.int .u32 (wd (U % V) i : Nat)) from fun i hi => hruV.cell (by omega))
      have HUN := Lib.hid (show Nat32 wr (some ⟨gU, 0, none⟩) (U % V) from Nat32.ofRow hruV (by have := ln_le HUV.out; omega) fun i _ => rfl)
      have HQN := Lib.hid (show Nat32 wr (some ⟨gQ, 0, none⟩) (U / V) from Nat32.ofRow hrq' (ln_le HQ0.out) fun i _ => above_zero _ _)
      have hul : ln (U % V) ≤ 35184372088832 := by have := ln_le HUV.out; omega
      have hst : ln y ≤ ln x + 1 := by omega
      have HB := Lib.hid hbel
      clear HBV hru hrq' hVr hbel hruV
      go_wp2_with fail
      go_region_with (first
        | (go_at_call_of 162 (Value.slice (some ⟨gQ, 0, none⟩) L L); refine (trim_any _ gQ L L (U / V) (by omega) (Nat.le_refl _) HQ0.out (by exact HQC.out)).mono ?_; rintro e w' ⟨rfl, rfl⟩)
        | (go_at_call_of 162 (some (Addr.mk gU 0 none)); go_loud (refine (trim_any _ gU (ln y) (ln x + 1) (U % V) (by omega) (by omega) HUV.out (by exact HUC.out)).mono ?_); rintro e w' ⟨rfl, rfl⟩)
        | (go_at_call 191; refine (shr_any (U % V) (lz y) _ _ (by exact HUN.out) hul (by omega)).mono ?_; rintro e w' ⟨AR, rfl, hR, hbR⟩))
      all_goals
        go_wp2_with fail
        go_ret2
        rw [HD.out.1, HD.out.2]
        exact ⟨_, _, rfl, HQN.out.drew.to hbR, hR, (HB.out.drew).trans (hbR.mono HB.out.size)⟩

end Go.Proofs.YtgpmlhpgdalheaaGreat
