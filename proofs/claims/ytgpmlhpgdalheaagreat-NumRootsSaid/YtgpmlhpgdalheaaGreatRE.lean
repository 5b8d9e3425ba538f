/- The reference: 'NatDiv': quotient and remainder of two numbers in words. -/
import Derived.Test.YtgpmlhpgdalheaaGreatRA
import Derived.Test.YtgpmlhpgdalheaaGreatDiv
import Derived.Shelf.Bits.Mul64
namespace Go.Proofs.YtgpmlhpgdalheaaGreat
open Go.RowKit Pl
set_option linter.unusedVariables false
set_option linter.unusedSimpArgs false

/-- A call of the reference hands back two numbers in words. -/
def RetNat2C (w : World) (q r : Nat) (e : Ending) (w' : World) : Prop := ∃ A c B d, e = .returned (.tuple #[.slice A (ln q) c, .slice B (ln r) d]) ∧ Nat32 w' A q ∧ Nat32 w' B r ∧ Below w.heap.size w w'

theorem qp_and {q V X k : Nat} (h : X = q * V) (hq : q < 4294967296) : bits .and .u64 ((q : Int) * (wd V k : Int) + (qc q V k : Int)) 4294967295 = (wd X k : Nat) := by
  have e : ((qp q V k : Nat) : Int) = (q : Int) * (wd V k : Int) + (qc q V k : Int) := by unfold qp; rw [Int.natCast_add, Int.natCast_mul]
  have h1 := qc_lt (V := V) (k := k) hq
  have h2 := wd_lt V k
  have h3 : q * wd V k ≤ 4294967295 * 4294967295 := Nat.mul_le_mul (by omega) (by omega)
  have h4 := qp_mod q V k
  have h5 : qp q V k < 18446744073709551616 := by unfold qp; omega
  rw [← e, Go.Proofs.Mul64.maskN (qp q V k) h5, h4, h]
theorem wrap_nat (a : Int) : ∃ S : Nat, IntKind.u64.wrap a = (S : Nat) ∧ S < 18446744073709551616 := by
  refine ⟨(IntKind.u64.wrap a).toNat, ?_, ?_⟩ <;> rw [IntKind.wrap_u64] <;> omega

set_option maxRecDepth 100000 in
set_option maxHeartbeats 4000000 in
theorem rdiv_main (x y : Nat) (A B : Option Addr) (c d : Nat) (w : World) (hx : Nat32 w A x) (hy : Nat32 w B y) (hbx : ln x ≤ 1099511627776) (hby : ln y ≤ 1099511627776) (hle : y ≤ x) (hl2 : 2 ≤ ln y) :
    Calls Tryz.prog 164 #[.slice A (ln x) c, .slice B (ln y) d] w (RetNat2C w (x / y) (x % y)) := by
  have hll := ln_mono hle
  have hy0 : y ≠ 0 := fun e => by rw [e, ln_zero] at hl2; omega
  have hcmp : decide (cmpN x y < 0) = false := by
    unfold cmpN; rw [if_neg (by omega)]; split <;> rfl
  have t1 : ((ln y : Int) == 1) = false := by simpa using fun e => by omega
  have hmk := mk_words (ln x + 1) (by omega)
  have ec : ((ln x + 1 : Nat) : Int) = (ln x : Int) + 1 := by omega
  rw [ec] at hmk
  have hmk2 := mk_words (ln x + 1 - ln y) (by omega)
  have ec2 : ((ln x + 1 - ln y : Nat) : Int) = (ln x : Int) + 1 - (ln y : Int) := by omega
  rw [ec2] at hmk2
  clear ec ec2
  have hlz := lz_le y hy0
  have HN := Lib.hid (norm_y hy0)
  have HT := Lib.hid (ur_top hy0 hll)
  have hdm : x / y = (x * 2 ^ lz y) / (y * 2 ^ lz y) ∧ x % y = (x * 2 ^ lz y) % (y * 2 ^ lz y) / 2 ^ lz y := by
    have hp : 0 < 2 ^ lz y := Nat.pow_pos (by omega)
    exact ⟨(Nat.mul_div_mul_right _ _ hp).symm, by rw [Nat.mul_mod_mul_right, Nat.mul_div_cancel _ hp]⟩
  obtain ⟨V, hVe⟩ : ∃ V, V = y * 2 ^ lz y := ⟨_, rfl⟩
  obtain ⟨U, hUe⟩ : ∃ U, U = x * 2 ^ lz y := ⟨_, rfl⟩
  rw [← hVe] at HN HT hdm
  rw [← hUe] at HT hdm
  have HV := Lib.hid hVe
  have HU := Lib.hid hUe
  have HD := Lib.hid hdm
  clear hVe hUe hdm
  have HL : Hid (ln V = ln y) := by
    have h := HN.out
    show ln V = ln y
    have h1 := ln_le h.1
    have h2 : ln y - 1 < ln V := ln_gt (Nat.le_trans (by have := pow_pos' (ln y - 1); omega) h.2)
    omega
  have HUL : Hid (ln U ≤ ln x + 1) := by
    show ln U ≤ ln x + 1
    apply ln_le
    rw [HU.out, Nat.pow_succ]
    have h1 := lt_ln x
    have h2 : 2 ^ lz y ≤ 4294967296 := Nat.pow_le_pow_right (n := 2) (by omega) (show lz y ≤ 32 by omega)
    exact Nat.lt_of_lt_of_le (Nat.mul_lt_mul_of_pos_right h1 (Nat.pow_pos (by omega))) (Nat.mul_le_mul_left _ h2)
  go_enter Tryz.func164, Tryz.ntmps164
  go_wp2_with fail
  refine (rcmp_any x y A B c d w hx hy (by omega)).mono ?_
  rintro e w1 ⟨rfl, hb1⟩
  have hx1 := hx.to hb1
  have hy1 := hy.to hb1
  have HC := Lib.hid hb1
  clear hx hy hb1
  have hnb : 32 * (ln y : Int) - (nbits y : Int) = (lz y : Nat) := by have := nbits_lz hy0; omega
  have hnb2 : nbits y ≤ 35184372088832 := by have := nbits_lz hy0; omega
  go_wp2_with fail
  refine (rbits_any y d B w1 hy1 (by omega)).mono ?_
  rintro e w' ⟨rfl, rfl⟩
  go_wp2_with fail
  have hs1 := rshl_any y (lz y) _ d w1 hy1 (by omega) (by omega)
  rw [← HV.out] at hs1
  refine hs1.mono ?_
  clear hs1
  rintro e w2 ⟨AV, cV, rfl, hV, hb2⟩
  rw [HL.out]
  have hx2 := (hx1.to hb2).alloc (.cells (madeCells #[.int .u32 0] (ln x + 1)) 45)
  have hV2 := hV.alloc (.cells (madeCells #[.int .u32 0] (ln x + 1)) 45)
  have hru := (World.rowIs_made w2 (.int .u32 0) (ln x + 1) 45).congr (g := rowN 0) fun j _ => (rowN_zero j).symm
  go_wp2_with fail
  have hs2 := rshl_any x (lz y) _ c _ hx2 (by omega) (by omega)
  rw [← HU.out] at hs2
  refine hs2.mono ?_
  clear hs2
  rintro e w3 ⟨AU, cU, rfl, hU, hb3⟩
  have hV3 := hV2.to hb3
  have hru3 := hru.of_block (hb3.block _ (by simp))
  go_wp2_with (with_reducible refine wpList_copy_words rfl (.tmp 58) (.tmp 61) _ _ rfl 45 Tryz.und_words Tryz.size_u32 _ _ _ _ _ rfl rfl hru3 hU ?_ ?_)
  · exact HUL.out
  intro w4 hru4 hg4
  have hV4 : Nat32 w4 AV V := fun hv0 => by
    obtain ⟨b2, e2, hlt2, hc2⟩ := hV hv0
    refine ⟨b2, e2, ?_, fun j hj => ?_⟩
    · have := hb3.size; have := hg4.size; simp at *; omega
    · have hb3s := hb3.size
      simp at hb3s
      refine (grown_cell hg4 (by omega) (by omega)).trans ((hb3.cell (p := ⟨b2, j, none⟩) (by simp; omega)).trans ?_)
      exact (World.cell?_alloc_lt _ _ _ hlt2).trans (hc2 j hj)
  have hBV : ∀ b2, AV = some ⟨b2, 0, none⟩ → b2 < w2.heap.size := fun b2 e2 => by
    have hv0 : V ≠ 0 := fun e => by have := HL.out; rw [e, ln_zero] at this; omega
    obtain ⟨b3, e3, hlt3, _⟩ := hV hv0
    rw [e2] at e3; injection e3 with e3; injection e3 with e3; omega
  have hbel4 : Below w.heap.size w w4 := by
    have h2 := HC.out.trans (hb2.mono HC.out.size)
    have h3 := (h2.alloc (by have := h2.size; exact this) (.cells (madeCells #[.int .u32 0] (ln x + 1)) 45)).trans (hb3.mono (by have := h2.size; simp; omega))
    exact h3.grown hg4 (by have := h3.size; exact this) (fun k e => by injection e with e; have := h2.size; omega)
  obtain ⟨gU, hgU⟩ : ∃ gU, gU = w2.heap.size := ⟨_, rfl⟩
  have hgUw : w.heap.size ≤ gU := by have h2 := HC.out.trans (hb2.mono HC.out.size); have := h2.size; omega
  rw [← hgU] at hru4 hBV ⊢
  have HBV := Lib.hid hBV
  clear hBV hg4 hb3 hru3 hV3 hU hV hV2 hru hx2 hb2 hgU hx1 hy1
  obtain ⟨L, hL⟩ : ∃ L, L = ln x + 1 - ln y := ⟨_, rfl⟩
  have hmk3 := fun wz => hmk2 wz
  rw [← hL] at hmk3
  have HLe := Lib.hid hL
  have hL1 : 1 ≤ L := by omega
  have hLn : L ≤ 1099511627777 := by omega
  clear hL hmk2 hmk
  go_wp2_with fail
  have hrq := (World.rowIs_made w4 (.int .u32 0) L 45).congr (g := above (U / V) L) fun j hj => (above_all _ hj).symm
  have hru5 := (hru4.alloc (.cells (madeCells #[.int .u32 0] L) 45)).congr (g := rowN (ur U V L)) fun j _ => by rw [ur_all (by rw [HLe.out]; exact HT.out)]
  have hV5 := hV4.alloc (.cells (madeCells #[.int .u32 0] L) 45)
  have hbel5 := hbel4.alloc (by have := hbel4.size; exact this) (.cells (madeCells #[.int .u32 0] L) 45)
  obtain ⟨gQ, hgQ⟩ : ∃ gQ, gQ = w4.heap.size := ⟨_, rfl⟩
  have hgUQ : gU < gQ := by rw [hgQ]; exact hru4.lt
  rw [← hgQ] at hrq ⊢
  clear hgQ hru4 hV4 hbel4 hmk3
  go_loopw [13] (fun i wr => ∃ (k : Nat) (iv : Int), k ≤ L ∧ iv = (k : Int) - 1 ∧ i = .int .i64 iv ∧ wr.rowIs gU 45 (ln x + 1) (rowN (ur U V k)) ∧ wr.rowIs gQ 45 L (above (U / V) k) ∧ Nat32 wr AV V ∧ Below w.heap.size w wr) (fun i _ => (intOf i + 1).toNat)
  case atStart => exact ⟨L, _, Nat.le_refl _, rfl, rfl, hru5, hrq, hV5, hbel5⟩
  case round =>
    obtain ⟨k, iv, hk, hiv, rfl, hru, hrq', hVr, hbel⟩ := hrel
    clear hru5 hrq hV5 hbel5
    by_cases hk0 : 0 < k
    · obtain ⟨j, rfl⟩ : ∃ j, k = j + 1 := ⟨k - 1, by omega⟩
      obtain rfl : iv = (j : Int) := by omega
      clear hiv
      have hV0 : V ≠ 0 := fun e => by have := HL.out; rw [e, ln_zero] at this; omega
      have HS := Lib.hid (ur_step (u := U) (V := V) (j := j) (by omega))
      obtain ⟨Z, hZ⟩ : ∃ Z, Z = ur U V (j + 1) := ⟨_, rfl⟩
      rw [← hZ] at hru HS
      have HZ := Lib.hid hZ
      clear hZ
      obtain ⟨b2, rfl, hlt2, hcv⟩ := hVr hV0
      have hb2g := HBV.out b2 rfl
      have hjm : j + ln y < ln x + 1 := by have := HLe.out; omega
      have c0 := hru.cell (i := j + ln y) (by omega)
      have c1 := hru.cell (i := j + ln y - 1) (by omega)
      have c2 := hru.cell (i := j + ln y - 2) (by omega)
      have d1 := hcv (ln y - 1) (by have := HL.out; omega)
      have d2 := hcv (ln y - 2) (by have := HL.out; omega)
      unfold rowN at c0 c1 c2
      obtain ⟨z0, hz0⟩ : ∃ z, z = wd Z (j + ln y) := ⟨_, rfl⟩
      obtain ⟨z1, hz1⟩ : ∃ z, z = wd Z (j + ln y - 1) := ⟨_, rfl⟩
      obtain ⟨z2, hz2⟩ : ∃ z, z = wd Z (j + ln y - 2) := ⟨_, rfl⟩
      obtain ⟨vt, hvt⟩ : ∃ z, z = wd V (ln y - 1) := ⟨_, rfl⟩
      obtain ⟨vs, hvs⟩ : ∃ z, z = wd V (ln y - 2) := ⟨_, rfl⟩
      rw [← hz0] at c0
      rw [← hz1] at c1
      rw [← hz2] at c2
      rw [← hvt] at d1
      rw [← hvs] at d2
      have bz0 : z0 < 4294967296 := by rw [hz0]; exact wd_lt _ _
      have bz1 : z1 < 4294967296 := by rw [hz1]; exact wd_lt _ _
      have bz2 : z2 < 4294967296 := by rw [hz2]; exact wd_lt _ _
      have bvt : vt < 4294967296 := by rw [hvt]; exact wd_lt _ _
      have bvs : vs < 4294967296 := by rw [hvs]; exact wd_lt _ _
      have bvt2 : 2147483648 ≤ vt := by
        rw [hvt, ← HL.out, top_word hV0, HL.out]
        exact (Nat.le_div_iff_mul_le (pow_pos' _)).2 HN.out.2
      have H0 := Lib.hid hz0
      have H1 := Lib.hid hz1
      have H2 := Lib.hid hz2
      have HT1 := Lib.hid hvt
      have HS1 := Lib.hid hvs
      clear hz0 hz1 hz2 hvt hvs hcv
      obtain ⟨top, htop⟩ : ∃ t, t = z0 * 4294967296 + z1 := ⟨_, rfl⟩
      have hor := hl_or bz0 bz1
      rw [← htop] at hor
      have btop : top < 18446744073709551616 := by omega
      obtain ⟨g0, hg0⟩ : ∃ t, t = top / vt := ⟨_, rfl⟩
      obtain ⟨r0, hr0⟩ : ∃ t, t = top % vt := ⟨_, rfl⟩
      have bg0 : g0 < 8589934592 := by rw [hg0]; exact (Nat.div_lt_iff_lt_mul (by omega)).2 (by omega)
      have br0 : r0 < vt := by rw [hr0]; exact Nat.mod_lt _ (by omega)
      have e1 : IntKind.u64.wrap ((top : Int) / (vt : Int)) = (g0 : Nat) := by
        rw [← Int.natCast_ediv, ← hg0, IntKind.wrap_u64]; omega
      have e2 : (top : Int) % (vt : Int) = (r0 : Nat) := by rw [← Int.natCast_emod, ← hr0]
      have HTO := Lib.hid htop
      have HG := Lib.hid hg0
      have HR := Lib.hid hr0
      clear htop hg0 hr0
      go_wp2_with fail
      go_quiet (fail)
      obtain ⟨W, hW⟩ : ∃ t, t = Z / 4294967296 ^ j := ⟨_, rfl⟩
      obtain ⟨q, hq⟩ : ∃ t, t = W / V := ⟨_, rfl⟩
      have HVd := Lib.hid (show V = (vt * 4294967296 + vs) * 4294967296 ^ (ln y - 2) + V % 4294967296 ^ (ln y - 2) by
        rw [HT1.out, HS1.out]
        have h := two_top (N := V) (k := ln y - 2) (by rw [show ln y - 2 + 2 = ln y by omega]; exact HN.out.1)
        rw [show ln y - 2 + 1 = ln y - 1 by omega] at h
        exact h)
      have HWV := Lib.hid (show W < V * 4294967296 by rw [hW]; exact HS.out.2.1)
      have HWd := Lib.hid (show W = (top * 4294967296 + z2) * 4294967296 ^ (ln y - 2) + W % 4294967296 ^ (ln y - 2) by
        have hWn : W < 4294967296 ^ (ln y - 2 + 3) := by
          rw [show ln y - 2 + 3 = ln y + 1 by omega, Nat.pow_succ]
          exact Nat.lt_trans HWV.out (Nat.mul_lt_mul_of_pos_right HN.out.1 (by omega))
        have h := three_top hWn
        rw [hW, wd_div, wd_div, wd_div, ← hW, show j + (ln y - 2 + 2) = j + ln y by omega, show j + (ln y - 2 + 1) = j + ln y - 1 by omega, show j + (ln y - 2) = j + ln y - 2 by omega, ← H0.out, ← H1.out, ← H2.out, ← HTO.out] at h
        exact h)
      have HQ := Lib.hid hq
      have HW := Lib.hid hW
      have hqV : q * V ≤ W := by rw [hq]; exact Nat.div_mul_le_self _ _
      have HQV := Lib.hid hqV
      clear hW hq hqV
      have HP := Lib.hid (Nat.mod_lt V (pow_pos' (ln y - 2)))
      have HP2 := Lib.hid (Nat.mod_lt W (pow_pos' (ln y - 2)))
      go_upto_block 2 with fail
      go_cut [15] from 110 to 145 (fun g wx => ∃ gv : Nat, g = .int .u64 gv ∧ gv < 4294967296 ∧ (gv = q ∨ gv = q + 1) ∧ ∃ n, wx = wr.drewN n)
      case first =>
        go_wp2_with fail
        go_loopw [15, 16] (fun g r wx => ∃ gv rv : Nat, g = .int .u64 gv ∧ r = .int .u64 rv ∧ gv * vt + rv = top ∧ q ≤ gv ∧ rv < 4294967296 ∧ gv < 8589934592 ∧ ∃ n, wx = wr.drewN n) (fun g _ _ => (intOf g).toNat)
        case atStart => exact ⟨g0, r0, rfl, int_val e2, by rw [HG.out, HR.out, Nat.mul_comm]; exact Nat.div_add_mod _ _, by rw [HG.out]; exact kd_ge HVd.out HWd.out HP2.out bz2 (by omega) HQV.out, by omega, bg0, _, rfl⟩
        case round =>
          clear btop hor e1 e2 c0 c1
          obtain ⟨gv, rv, rfl, rfl, hgr, hqg, hrv, hgv, n', rfl⟩ := hrel
          have HGR := Lib.hid hgr
          clear hgr
          by_cases hbig : 4294967296 ≤ gv
          · have hd : decide ((4294967296 : Int) ≤ (gv : Int)) = true := by
              rw [decide_eq_true_eq]; omega
            have hqlt : q < gv := kd_dec HVd.out HWd.out HP2.out HWV.out HGR.out (.inl hbig) HQV.out hqg
            go_wp2_with fail
            go_quiet (fail)
            have hg1 : (gv : Int) - 1 = ((gv - 1 : Nat) : Int) := by omega
            have HOUT := Lib.hid (fun hr : 4294967296 ≤ rv + vt => kd_out HVd.out HP.out bvs HWd.out HWV.out (show (gv - 1) * vt + (rv + vt) = top by rw [← HGR.out, Nat.sub_mul, Nat.one_mul]; have := Nat.le_mul_of_pos_left vt (show 0 < gv by omega); omega) hr)
            have HGR2 := Lib.hid (show (gv - 1) * vt + (rv + vt) = top by rw [← HGR.out, Nat.sub_mul, Nat.one_mul]; have := Nat.le_mul_of_pos_left vt (show 0 < gv by omega); omega)
            by_cases hr : 4294967296 ≤ rv + vt
            · have hr2 : decide ((4294967296 : Int) ≤ (rv : Int) + (vt : Int)) = true := by
                rw [decide_eq_true_eq]; omega
              go_wp2_with fail
              go_meet
              exact ⟨gv - 1, by rw [← hg1], (HOUT.out hr).1, .inl (by
                have h1 := (Nat.le_div_iff_mul_le (by omega)).2 (HOUT.out hr).2
                rw [← HQ.out] at h1; omega), _, rfl⟩
            · have hr2 : decide ((4294967296 : Int) ≤ (rv : Int) + (vt : Int)) = false := by
                rw [decide_eq_false_iff_not]; omega
              go_wp2_with fail
              go_roundw
              case rel => exact ⟨gv - 1, rv + vt, by rw [← hg1], by go_num, HGR2.out, by omega, by omega, by omega, _, rfl⟩
              case measure => simp [intOf]; omega
          · have hd : decide ((4294967296 : Int) ≤ (gv : Int)) = false := by
              rw [decide_eq_false_iff_not]; omega
            obtain ⟨ru, hru0⟩ : ∃ t, t = rv * 4294967296 + z2 := ⟨_, rfl⟩
            have hor := hl_or hrv bz2
            rw [← hru0] at hor
            have HRU := Lib.hid hru0
            have hp1 := prod_le (show gv < 4294967296 by omega) bvs
            have hp0 : 0 ≤ (gv : Int) * (vs : Int) := Int.mul_nonneg (by omega) (by omega)
            have hp2 : ((gv * vs : Nat) : Int) = (gv : Int) * (vs : Int) := Int.natCast_mul _ _
            by_cases hlt : ru < gv * vs
            · have hd2 : decide ((ru : Int) < (gv : Int) * (vs : Int)) = true := by
                rw [decide_eq_true_eq]; omega
              have hqlt : q < gv := kd_dec HVd.out HWd.out HP2.out HWV.out HGR.out (.inr (by rw [← hru0]; exact hlt)) HQV.out hqg
              clear hru0 hp2
              go_wp2_with fail
              go_quiet (fail)
              have hg1 : (gv : Int) - 1 = ((gv - 1 : Nat) : Int) := by omega
              have HOUT := Lib.hid (fun hr : 4294967296 ≤ rv + vt => kd_out HVd.out HP.out bvs HWd.out HWV.out (show (gv - 1) * vt + (rv + vt) = top by rw [← HGR.out, Nat.sub_mul, Nat.one_mul]; have := Nat.le_mul_of_pos_left vt (show 0 < gv by omega); omega) hr)
              have HGR2 := Lib.hid (show (gv - 1) * vt + (rv + vt) = top by rw [← HGR.out, Nat.sub_mul, Nat.one_mul]; have := Nat.le_mul_of_pos_left vt (show 0 < gv by omega); omega)
              by_cases hr : 4294967296 ≤ rv + vt
              · have hr2 : decide ((4294967296 : Int) ≤ (rv : Int) + (vt : Int)) = true := by
                  rw [decide_eq_true_eq]; omega
                go_wp2_with fail
                go_meet
                exact ⟨gv - 1, by rw [← hg1], (HOUT.out hr).1, .inl (by
                  have h1 := (Nat.le_div_iff_mul_le (by omega)).2 (HOUT.out hr).2
                  rw [← HQ.out] at h1; omega), _, rfl⟩
              · have hr2 : decide ((4294967296 : Int) ≤ (rv : Int) + (vt : Int)) = false := by
                  rw [decide_eq_false_iff_not]; omega
                go_wp2_with fail
                go_roundw
                case rel => exact ⟨gv - 1, rv + vt, by rw [← hg1], by go_num, HGR2.out, by omega, by omega, by omega, _, rfl⟩
                case measure => simp [intOf]; omega
            · have hd2 : decide ((ru : Int) < (gv : Int) * (vs : Int)) = false := by
                rw [decide_eq_false_iff_not]; omega
              have HF := Lib.hid (kd_fit HVd.out HP.out (by omega) HWd.out HGR.out (by omega) (by rw [← hru0]; omega))
              clear hru0 hp2
              go_wp2_with fail
              go_quiet (fail)
              go_wp2_with fail
              go_meet
              exact ⟨gv, rfl, by omega, kd_word hqg (by
                have h1 := Nat.lt_mul_div_succ W (show 0 < V by omega)
                rw [← HQ.out, Nat.mul_comm] at h1; exact h1) HF.out, _, World.drewN_drewN _ _ _⟩
      case rest =>
        clear btop hor e1 e2 c0 c1 c2 d1 d2
        obtain ⟨gv, rfl, hgv, hgq, n', rfl⟩ := hcut
        have hZU : Z < 4294967296 ^ (j + ln y + 1) := by
          have h1 : Z / 4294967296 ^ j < 4294967296 ^ (ln y + 1) := by
            rw [← HW.out, Nat.pow_succ]; exact Nat.lt_trans HWV.out (Nat.mul_lt_mul_of_pos_right HN.out.1 (by omega))
          rw [Nat.div_lt_iff_lt_mul (pow_pos' j), ← Nat.pow_add, show ln y + 1 + j = j + ln y + 1 by omega] at h1
          exact h1
        have HZU := Lib.hid hZU
        clear hZU
        have HWl := Lib.hid (show W < 4294967296 ^ (ln y + 1) by
          rw [Nat.pow_succ]; exact Nat.lt_trans HWV.out (Nat.mul_lt_mul_of_pos_right HN.out.1 (by omega)))
        have hXn : gv * V < 4294967296 ^ (ln y + 1) := by
          rw [Nat.pow_succ]
          have h1 : gv * V ≤ 4294967296 * V := Nat.mul_le_mul_right _ (by omega)
          have h2 := HN.out.1
          omega
        obtain ⟨X, hX⟩ : ∃ t, t = gv * V := ⟨_, rfl⟩
        rw [← hX] at hXn
        have HX := Lib.hid hX
        have HXN := Lib.hid hXn
        have HWD := Lib.hid (show ∀ k, wd W k = wd Z (k + j) from fun k => by rw [HW.out, wd_div, Nat.add_comm])
        have HGQ := Lib.hid hgq
        clear hX hXn hgq
        have hruA := (hru.of_block (w' := wr.drewN n') (by rfl)).congr (g := seg Z (tk W X (ln y)) j 0) fun i _ => seg_zero _ _ _ _
        have hrqA := hrq'.of_block (w' := wr.drewN n') (by rfl)
        have hVA := hVr.drewN n'
        have hbA := below_drewN hbel n'
        clear hru hrq' hVr hbel hlt2
        go_wp2_with fail
        go_loopw [17, 18, 19] (fun c2 c1 i wx => ∃ k : Nat, k ≤ ln y ∧ i = .int .i64 k ∧ c1 = .int .u64 (qc gv V k : Nat) ∧ c2 = .int .u64 (sb W X k : Nat) ∧ wx.rowIs gU 45 (ln x + 1) (seg Z (tk W X (ln y)) j k) ∧ wx.rowIs gQ 45 L (above (U / V) (j + 1)) ∧ Nat32 wx (some ⟨b2, 0, none⟩) V ∧ Below w.heap.size w wx) (fun _ _ i _ => ln y - (intOf i).toNat)
        case atStart => exact ⟨0, Nat.zero_le _, rfl, by rw [qc_zero]; rfl, by rw [sb_zero]; rfl, hruA, hrqA, hVA, hbA⟩
        case round =>
        obtain ⟨k, hk, rfl, rfl, rfl, hruk, hrqk, hVk, hbk⟩ := hrel
        clear hruA hrqA hVA hbA
        have c1 := qc_lt (V := V) (k := k) hgv
        have c2 := sb_le W X k
        by_cases hlt : k < ln y
        · obtain ⟨b3, e3, hlt3, hc3⟩ := hVk hV0
          injection e3 with e3; injection e3 with e3
          subst e3
          have hvk := hc3 k (by have := HL.out; omega)
          have hst := hruk.cell (i := k + j) (by omega)
          rw [seg_at] at hst
          have hfr := hruk.frozen (k + j)
          have bb1 := wd_lt V k
          have bb2 := wd_lt Z (k + j)
          have bb3 := prod_le hgv bb1
          have bb4 : 0 ≤ (gv : Int) * (wd V k : Int) := Int.mul_nonneg (by omega) (by omega)
          clear hc3
          have hX2 : X ≤ W + 4294967296 ^ (ln y + 1) := by have := HXN.out; omega
          have hand := qp_and (k := k) HX.out hgv
          have H2' := Lib.hid (qp_hi gv V k)
          have H3 := Lib.hid (t64 (wd_lt W k) (wd_lt X k) (sb_le W X k))
          rw [HWD.out k] at H3
          have H4 := Lib.hid (tk_word (k := k) (by omega) hX2)
          have H5 := Lib.hid (sb_step W X k)
          rw [HWD.out k] at H4 H5
          clear hX2
          go_wp2_with fail
          go_roundw
          case rel => exact ⟨k + 1, by omega, by go_num, int_val (by rw [H2'.out]), int_val (by rw [H3.out.2, H5.out]), (hruk.set _ _).congr fun i _ => seg_step (int_val (by rw [H3.out.1, H4.out])), hrqk.setOther (by show gQ ≠ gU; omega) _, hVk.setOther (by show gU ≠ b2; omega) _, hbk.setCell (by show w.heap.size ≤ gU; omega) _⟩
          case measure => simp [intOf]; omega
        obtain rfl : k = ln y := by omega
        have hst := hruk.cell (i := ln y + j) (by omega)
        rw [seg_at, Nat.add_comm (ln y) j] at hst
        have hfr := hruk.frozen (j + ln y)
        have bz := wd_lt Z (j + ln y)
        have hX2 : X ≤ W + 4294967296 ^ (ln y + 1) := by have := HXN.out; omega
        have H0' := Lib.hid (show qc gv V (ln y) = wd X (ln y) by rw [qc_end HN.out.1, ← HX.out, lin_top HXN.out])
        have H3 := Lib.hid (t64 (wd_lt W (ln y)) (wd_lt X (ln y)) (sb_le W X (ln y)))
        rw [HWD.out (ln y), Nat.add_comm (ln y) j, ← H0'.out] at H3
        have H4 := Lib.hid (tk_word (k := ln y) (by omega) hX2)
        have H5 := Lib.hid (sb_step W X (ln y))
        rw [HWD.out (ln y), Nat.add_comm (ln y) j, ← H0'.out] at H4 H5
        have H6 := Lib.hid (sb_last HWl.out HXN.out)
        clear hX2
        obtain ⟨S, hS, bS⟩ := wrap_nat (IntKind.u64.wrap ((wd Z (j + ln y) : Int) - (qc gv V (ln y) : Int)) - (sb W X (ln y) : Int))
        rw [hS] at H3
        have HS1' := Lib.hid (show (S : Int) % 4294967296 = (wd (tk W X (ln y)) (ln y) : Nat) by rw [H3.out.1, H4.out])
        have HS2' : (S : Int) / 9223372036854775808 = ((if W < X then 1 else 0 : Nat) : Int) := by rw [H3.out.2, H5.out, H6.out]
        have hru6 : (wr.setCell ⟨gU, j + ln y, none⟩ (.int .u32 ((S : Int) % 4294967296))).rowIs gU 45 (ln x + 1) (seg Z (tk W X (ln y)) j (ln y + 1)) :=
          (hruk.set (j + ln y) (.int .u32 ((S : Int) % 4294967296))).congr fun i _ => by
            rw [Nat.add_comm j (ln y)]; exact seg_step (int_val HS1'.out)
        have hrq6 : (wr.setCell ⟨gU, j + ln y, none⟩ (.int .u32 ((S : Int) % 4294967296))).rowIs gQ 45 L (above (U / V) (j + 1)) := hrqk.setOther (by show gQ ≠ gU; omega) _
        have hV6 : Nat32 (wr.setCell ⟨gU, j + ln y, none⟩ (.int .u32 ((S : Int) % 4294967296))) (some ⟨b2, 0, none⟩) V := hVk.setOther (by show gU ≠ b2; omega) _
        have hb6 : Below w.heap.size w (wr.setCell ⟨gU, j + ln y, none⟩ (.int .u32 ((S : Int) % 4294967296))) := hbk.setCell (by show w.heap.size ≤ gU; omega) _
        have HRl := Lib.hid (show ur U V j / 4294967296 ^ j = W - q * V by
          rw [HS.out.2.2.1, ← HW.out, HQ.out]
          have h1 := Nat.div_add_mod W V
          rw [Nat.mul_comm] at h1; omega)
        have HQJ := Lib.hid (show q = wd (U / V) j by rw [HQ.out, HW.out]; exact HS.out.1)
        have hgq := HGQ.out
        have hst2 := hrqk.cell (i := j) (by omega)
        have hfr2 := hrqk.frozen j
        clear H3 H4 H5
        rcases hgq with rfl | rfl
        · have hnt : ((S : Int) / 9223372036854775808 == 1) = false := by
            rw [HS2', if_neg (by rw [HX.out]; have := HQV.out; omega)]; rfl
          have hru7 := Lib.hid (show (wr.setCell ⟨gU, j + ln y, none⟩ (.int .u32 ((S : Int) % 4294967296))).rowIs gU 45 (ln x + 1) (rowN (ur U V j)) from hru6.congr fun i _ => seg_done (HS.out.2.2.2) (fun k hk => by rw [HRl.out, HX.out]; exact tk_words HQV.out hk) (by rw [HRl.out]; have := HWl.out; omega) (by rw [← HW.out]; exact HWl.out))
          have HRQ6 := Lib.hid hrq6
          have HV6 := Lib.hid hV6
          have HB6 := Lib.hid hb6
          clear hru6 hrq6 hV6 hb6 HS2' hruk hrqk hVk hbk
          go_wp2_with fail
          go_roundw
          case rel => exact ⟨j, (j : Int) - 1, by omega, rfl, rfl, hru7.out.setOther (by show gU ≠ gQ; omega) _, (HRQ6.out.set _ _).congr fun i _ => above_step (by omega) (int_val (by rw [Nat.add_sub_cancel, ← HQJ.out])), HV6.out.setOther (by show gQ ≠ b2; omega) _, HB6.out.setCell (by show w.heap.size ≤ gQ; omega) _⟩
          case measure => simp [intOf] <;> omega
        · have hlt2 := Nat.lt_mul_div_succ W (show 0 < V by omega)
          rw [← HQ.out, Nat.mul_comm] at hlt2
          have HXW := Lib.hid (show W < X by rw [HX.out]; exact hlt2)
          have hnt : ((S : Int) / 9223372036854775808 == 1) = true := by
            rw [HS2', if_pos HXW.out]; rfl
          have HX1 := Lib.hid (show X = q * V + V by rw [HX.out, Nat.add_mul, Nat.one_mul])
          obtain ⟨D, hD⟩ : ∃ t, t = tk W X (ln y) := ⟨_, rfl⟩
          rw [← hD] at hru6
          have HDX := Lib.hid (show ∀ k, k < ln y + 1 → wd (D + V) k = wd (W - q * V) k from fun k hk => by
            have h0 : X - V = q * V := by rw [HX1.out]; omega
            have h1 := back_words (W := W) (X := X) (V := V) (n := ln y) (k := k) HXW.out (by rw [h0]; exact HQV.out) (by rw [HX1.out]; omega) (by have := HQV.out; have := HX1.out; have := HN.out.1; have h9 : (4294967296 : Nat) ^ ln y ≤ 4294967296 ^ (ln y + 1) := Nat.pow_le_pow_right (by omega) (by omega); omega) hk
            rw [h0, ← hD] at h1; exact h1)
          clear hD hlt2 HS2'
          have hruA := Lib.hid (hru6.congr (g := seg2 Z D (D + V) j (ln y + 1) 0) fun i _ => seg2_zero _ _ _ _ _ _)
          have hq1 : ((q + 1 : Nat) : Int) - 1 = (q : Int) := by omega
          have HRQ6 := Lib.hid hrq6
          have HV6 := Lib.hid hV6
          have HB6 := Lib.hid hb6
          clear hru6 hrq6 hV6 hb6 hruk hrqk hVk hbk
          go_wp2_with fail
          go_loopw [18, 23] (fun c i wx => ∃ k : Nat, k ≤ ln y ∧ i = .int .i64 k ∧ c = .int .u64 (cr D V k : Nat) ∧ wx.rowIs gU 45 (ln x + 1) (seg2 Z D (D + V) j (ln y + 1) k) ∧ wx.rowIs gQ 45 L (above (U / V) (j + 1)) ∧ Nat32 wx (some ⟨b2, 0, none⟩) V ∧ Below w.heap.size w wx) (fun _ i _ => ln y - (intOf i).toNat)
          case atStart => exact ⟨0, Nat.zero_le _, rfl, by rw [cr_zero]; rfl, hruA.out, HRQ6.out, HV6.out, HB6.out⟩
          case round =>
            obtain ⟨k, hk, rfl, rfl, hruk, hrqk, hVk, hbk⟩ := hrel
            clear hruA HRQ6 HV6 HB6 hst hst2 hfr hfr2
            have bc := cr_le D V k
            by_cases hlt : k < ln y
            · obtain ⟨b3, e3, hlt3, hc3⟩ := hVk hV0
              injection e3 with e3; injection e3 with e3
              subst e3
              have hvk := hc3 k (by have := HL.out; omega)
              have hst := hruk.cell (i := k + j) (by omega)
              rw [seg2_at (by omega)] at hst
              have hfr := hruk.frozen (k + j)
              have bD := wd_lt D k
              have bV := wd_lt V k
              clear hc3
              have HC1 := Lib.hid (cr_word D V k)
              have HC2 := Lib.hid (cr_step D V k)
              go_wp2_with fail
              go_quiet (fail)
              go_wp2_with fail
              go_roundw
              case rel => exact ⟨k + 1, by omega, by go_num, int_val (by have := HC2.out; omega), (hruk.set _ _).congr fun i _ => seg2_step (int_val (by have := HC1.out; omega)), hrqk.setOther (by show gQ ≠ gU; omega) _, hVk.setOther (by show gU ≠ b2; omega) _, (below_drewN hbk _).setCell (by show w.heap.size ≤ gU; omega) _⟩
              case measure => simp [intOf]; omega
            · obtain rfl : k = ln y := by omega
              have hst := hruk.cell (i := ln y + j) (by omega)
              rw [seg2_at (by omega), Nat.add_comm (ln y) j] at hst
              have hfr := hruk.frozen (j + ln y)
              have bD := wd_lt D (ln y)
              have hst2 := hrqk.cell (i := j) (by omega)
              have hfr2 := hrqk.frozen j
              have HC1 := Lib.hid (cr_word D V (ln y))
              have HV0 := Lib.hid (show wd V (ln y) = 0 from wd_top HN.out.1 (Nat.le_refl _))
              go_wp2_with fail
              go_roundw
              case rel => exact ⟨j, (j : Int) - 1, by omega, rfl, rfl, (((hruk.set _ _).congr (g := rowN (ur U V j)) fun i _ => by
                  rw [Nat.add_comm j (ln y), seg2_step (int_val (by have h1 := HC1.out; have h2 := HV0.out; omega)), seg2_all]
                  exact seg_done HS.out.2.2.2 (fun k hk => by rw [HDX.out k hk, HRl.out]) (by rw [HRl.out]; have := HWl.out; omega) (by rw [← HW.out]; exact HWl.out))).setOther (by show gU ≠ gQ; omega) _, ((hrqk.setOther (by show gQ ≠ gU; omega) _).set _ _).congr fun i _ => above_step (by omega) (int_val (by rw [Nat.add_sub_cancel, ← HQJ.out])), (hVk.setOther (by show gU ≠ b2; omega) _).setOther (by show gQ ≠ b2; omega) _, (hbk.setCell (by show w.heap.size ≤ gU; omega) _).setCell (by show w.heap.size ≤ gQ; omega) _⟩
              case measure => simp [intOf] <;> omega
    · obtain rfl : k = 0 := by omega
      have HQ0 := Lib.hid (show U / V < 4294967296 ^ L from (by
        rw [Nat.div_lt_iff_lt_mul (by have := HN.out.2; have := pow_pos' (ln y - 1); omega), Nat.mul_comm, HLe.out]; exact HT.out))
      have HR0 := Lib.hid (show ur U V 0 = U % V from ur_zero U V)
      have HUV := Lib.hid (show U % V < 4294967296 ^ ln y from Nat.lt_trans (Nat.mod_lt _ (by have := HN.out.2; have := pow_pos' (ln y - 1); omega)) HN.out.1)
      have hruV := hru.congr (g := rowN (U % V)) fun i _ => by rw [HR0.out]
      have HQC := Lib.hid (show ∀ i, i < L → wr.cell? ⟨gQ, i, none⟩ = some (.int .u32 (wd (U / V) i : Nat)) from fun i hi => by rw [← above_zero]; exact hrq'.cell hi)
      have HUC := Lib.hid (show ∀ i, i < ln y → wr.cell? ⟨gU, i, none⟩ = some (.int .u32 (wd (U % V) i : Nat)) from fun i hi => hruV.cell (by omega))
      have HUN := Lib.hid (show Nat32 wr (some ⟨gU, 0, none⟩) (U % V) from Nat32.ofRow hruV (by have := ln_le HUV.out; omega) fun i _ => rfl)
      have HQN := Lib.hid (show Nat32 wr (some ⟨gQ, 0, none⟩) (U / V) from Nat32.ofRow hrq' (ln_le HQ0.out) fun i _ => above_zero _ _)
      have hul : ln (U % V) ≤ 35184372088832 := by have := ln_le HUV.out; omega
      have hst : ln y ≤ ln x + 1 := by omega
      have HB := Lib.hid hbel
      clear HBV hru hrq' hVr hbel hruV
      go_wp2_with fail
      go_region_with (first
        | (go_at_call_of 166 (Value.slice (some ⟨gQ, 0, none⟩) L L); refine (rtrim_any _ gQ L L (U / V) (by omega) (Nat.le_refl _) HQ0.out (by exact HQC.out)).mono ?_; rintro e w' ⟨rfl, rfl⟩)
        | (go_at_call_of 166 (some (Addr.mk gU 0 none)); go_loud (refine (rtrim_any _ gU (ln y) (ln x + 1) (U % V) (by omega) (by omega) HUV.out (by exact HUC.out)).mono ?_); rintro e w' ⟨rfl, rfl⟩)
        | (go_at_call 149; refine (rshr_any (U % V) (lz y) _ _ _ (by exact HUN.out) hul (by omega)).mono ?_; rintro e w' ⟨AR, cR, rfl, hR, hbR⟩))
      all_goals
        go_wp2_with fail
        go_ret2
        rw [HD.out.1, HD.out.2]
        exact ⟨_, _, _, _, rfl, HQN.out.drew.to hbR, hR, (HB.out.drew).trans (hbR.mono HB.out.size)⟩

end Go.Proofs.YtgpmlhpgdalheaaGreat
