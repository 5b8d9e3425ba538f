/- The reference's NatRoot. The reference's root and Sqrt. The reference's Sqrt. -/
import Derived.Test.YtgpmlhpgdalheaaGreatKA
import Derived.Test.YtgpmlhpgdalheaaGreatRS
import Derived.Deep.LoopGhost
import Derived.Test.YtgpmlhpgdalheaaGreatKB
namespace Go.Proofs.YtgpmlhpgdalheaaGreat
open Go.RowKit Pl
set_option linter.unusedVariables false
set_option linter.unusedSimpArgs false

theorem rshl_o (k U : Nat) (hU : U = 2 ^ k) (B : Option Addr) (w : World) (hy : Nat32 w B 1) (hk : k ≤ 1099511627776) :
    Calls Tryz.prog 118 #[.slice B 1 1, .int .i64 (k : Nat)] w (RetNatC w U) := by
  have h := rshl_any 1 k B 1 w hy (by rw [ln_one]; omega) hk
  rw [ln_one, Nat.one_mul, ← hU] at h
  exact h
theorem rshr_o (x L : Nat) (hL : L = x / 2) (A : Option Addr) (c : Nat) (w : World) (hx : Nat32 w A x) (hb : ln x ≤ 35184372088832) :
    Calls Tryz.prog 149 #[.slice A (ln x) c, .int .i64 1] w (RetNatC w L) := by
  have h := rshr_any x 1 A c w hx hb (by omega)
  rw [Nat.pow_one, ← hL] at h
  exact h
theorem radd_o (x y L : Nat) (hL : L = x + y) (A B : Option Addr) (c d : Nat) (w : World) (hx : Nat32 w A x) (hy : Nat32 w B y) (hbx : ln x ≤ 35184372088832) (hby : ln y ≤ 35184372088832) :
    Calls Tryz.prog 147 #[.slice A (ln x) c, .slice B (ln y) d] w (RetNatC w L) := by
  subst hL; exact rnatAdd_any x y A B c d w hx hy hbx hby
set_option maxHeartbeats 2000000 in
/-- 'NatRoot'. -/
theorem rnatRoot_any (x : Nat) (A : Option Addr) (c : Nat) (w : World) (hx : Nat32 w A x) (hbx : ln x ≤ 17179869184) :
    Calls Tryz.prog 171 #[.slice A (ln x) c] w (RetNatC w (rt x)) := by
  by_cases h0 : x = 0
  · have t1 : ((ln x : Int) == 0) = true := by rw [h0, ln_zero]; rfl
    have H : Hid (RetNatC w (rt x) (.returned (.slice none 0 0)) w) := Lib.hid ⟨none, 0, by rw [h0, show rt 0 = 0 from rfl, ln_zero], by rw [h0]; exact Nat32.zero _ _, Below.refl _ _⟩
    clear hx h0
    go_enter Tryz.func171, Tryz.ntmps171
    go_wp2_with fail
    go_ret
    exact H.out
  · have lx := ln_pos h0
    have t1 : ((ln x : Int) == 0) = false := by rw [beq_eq_false_iff_ne]; omega
    obtain ⟨N, hN⟩ : ∃ N, N = nbits x := ⟨_, rfl⟩
    obtain ⟨k, hk⟩ : ∃ k, k = (N + 1) / 2 := ⟨_, rfl⟩
    obtain ⟨U, hU⟩ : ∃ U, U = 2 ^ k := ⟨_, rfl⟩
    obtain ⟨m1, m2, m3, m4⟩ := ln_start h0 hN hk hU
    have kb : k ≤ 1099511627776 := by omega
    have d1 : ((N : Int) + 1).tdiv 2 = (k : Int) := by rw [hk, Int.tdiv_eq_ediv_of_nonneg (by omega)]; omega
    have d2 : ((N : Int) + 1) / 2 = (k : Int) := by rw [hk]; omega
    have Nb : N ≤ 35184372088832 := by omega
    have HU := Lib.hid hU
    have HM := Lib.hid (And.intro m1 (And.intro m2 m3))
    have HN := Lib.hid hN.symm
    have HX := Lib.hid hbx
    have H0 := Lib.hid h0
    clear h0 hN hk hU m1 m2 m3 m4 hbx lx
    go_enter Tryz.func171, Tryz.ntmps171
    go_wp2_with fail
    refine (rbits_any x c A _ (by exact hx.alloc _) (Nat.le_trans HX.out (by omega))).mono ?_
    rintro e w0 ⟨rfl, hw⟩
    rw [← hw, HN.out]
    clear hw w0
    go_wp2_with fail
    refine (rshl_o k U HU.out _ _ (by exact nat1_new _ _) kb).mono ?_
    rintro e w1 ⟨A1, cA1, rfl, h1, hb1⟩
    have hb := unalloc hb1
    have hx1 := hx.to hb
    clear hb1 d1 d2 Nb kb
    go_wp2_with fail
    go_loopg [3] U (fun m u wr => ∃ (A' : Option Addr) (c' : Nat), u = .slice A' (ln m) c' ∧ Nat32 wr A' m ∧ Hid (rt x ≤ m ∧ m ≤ U ∧ 0 < m) ∧ Nat32 wr A x ∧ Below w.heap.size w wr)
    case atStart => exact ⟨A1, cA1, rfl, h1, Lib.hid ⟨HM.out.1, Nat.le_refl _, HM.out.2.2⟩, hx1, hb⟩
    case round =>
      obtain ⟨A', c', rfl, hA, hm, hX, hbb⟩ := hrel
      clear hx hx1 h1 hb
      have HB := Lib.hid hbb
      clear hbb
      have lm : Hid (ln gk ≤ 17179869185) := Lib.hid (Nat.le_trans (ln_mono hm.out.2.1) (Nat.le_trans HM.out.2.1 (by have := HX.out; omega)))
      obtain ⟨S, hS⟩ : ∃ S, S = gk + x / gk := ⟨_, rfl⟩
      obtain ⟨nx, hnx⟩ : ∃ nx, nx = S / 2 := ⟨_, rfl⟩
      have lq : Hid (ln (x / gk) ≤ 17179869184) := Lib.hid (Nat.le_trans (ln_mono (Nat.div_le_self _ _)) HX.out)
      have lS : Hid (ln S ≤ 1099511627778) := Lib.hid (by rw [hS]; have := ln_add gk (x / gk); have := lm.out; have := lq.out; omega)
      have HS := Lib.hid hS
      have HNX := Lib.hid hnx
      have hnn : nx = (gk + x / gk) / 2 := by rw [hnx, hS]
      have HNN := Lib.hid hnn
      clear hS hnx hnn
      go_wp2_with fail
      refine (rdiv_any x gk A A' c c' wr hX hA (Nat.le_trans HX.out (by omega)) (Nat.le_trans lm.out (by omega)) (Nat.ne_of_gt hm.out.2.2)).mono ?_
      rintro e w1 ⟨AQ, cQ, AR, cR, rfl, hQ, hR, hb1⟩
      replace hA := hA.to hb1
      replace hX := hX.to hb1
      replace HB := Lib.hid (hstep HB hb1)
      clear hb1 hR
      go_wp2_with fail
      refine (radd_o gk (x / gk) S HS.out A' AQ c' cQ _ (by exact hA) (by exact hQ) (Nat.le_trans lm.out (by omega)) (Nat.le_trans lq.out (by omega))).mono ?_
      rintro e w2 ⟨A2, c2, rfl, h2, hb2⟩
      replace hA := hA.to hb2
      replace hX := hX.to hb2
      replace HB := Lib.hid (hstep HB hb2)
      clear hb2
      go_wp2_with fail
      refine (rshr_o S nx HNX.out A2 c2 _ (by exact h2) (Nat.le_trans lS.out (by omega))).mono ?_
      rintro e w3 ⟨A3, c3, rfl, h3, hb3⟩
      replace hA := hA.to hb3
      replace hX := hX.to hb3
      replace HB := Lib.hid (hstep HB hb3)
      clear hb3 h2
      have ln3 : Hid (ln nx ≤ 35184372088832) := Lib.hid (Nat.le_trans (ln_mono (by rw [HNX.out]; exact Nat.div_le_self _ _)) (Nat.le_trans lS.out (by omega)))
      go_wp2_with fail
      refine (rcmp_any nx gk A3 A' c3 c' _ (by exact h3) (by exact hA) ln3.out).mono ?_
      rintro e w4 ⟨rfl, hb4⟩
      replace hA := hA.to hb4
      replace hX := hX.to hb4
      replace h3 := h3.to hb4
      replace HB := Lib.hid (hstep HB hb4)
      clear hb4
      by_cases hc : nx < gk
      · have c1 : decide (0 ≤ cmpN nx gk) = false := by rw [cmpN_lt hc]; rfl
        have hlt := Lib.hid hc
        have hsm := Lib.hid (nw_small (n := x) hm.out.2.2 hm.out.1 (by rw [← HNN.out]; omega))
        clear hc
        go_wp2_with fail
        go_roundg nx
        case measure => exact hlt.out
        case rel =>
          refine ⟨A3, c3, rfl, h3, Lib.hid ⟨by rw [HNN.out]; exact hsm.out.2, Nat.le_trans (Nat.le_of_lt hlt.out) hm.out.2.1, ?_⟩, hX, HB.out⟩
          have r1 : 0 < rt x := Nat.pos_of_ne_zero fun e => by
            have := (rt_spec x).2; rw [e] at this; have := H0.out; omega
          have := hsm.out.2; rw [← HNN.out] at this; omega
      · have c1 : decide (0 ≤ cmpN nx gk) = true := by
          unfold cmpN; rw [if_neg hc]; split <;> rfl
        have he : Hid (gk = rt x) := Lib.hid (Nat.le_antisymm (nw_stop hm.out.2.2 (by rw [← HNN.out]; omega)) hm.out.1)
        clear hc
        go_wp2_with fail
        go_ret
        rw [← he.out]
        exact ⟨A', c', rfl, hA, HB.out⟩
end Go.Proofs.YtgpmlhpgdalheaaGreat

namespace Go.Proofs.YtgpmlhpgdalheaaGreat
open Go.RowKit Pl
set_option linter.unusedVariables false
set_option linter.unusedSimpArgs false

/-- A call of the reference hands back a number and a truth value. -/
def RetNumCB (w : World) (b : Bool) (q : Cx) (e : Ending) (w' : World) : Prop := ∃ A1 A2 A3 c1 c2 c3, e = .returned (.tuple #[.agg #[.bool (sn (na q)), .slice A1 (ln (ab (na q))) c1, .bool (sn (nb q)), .slice A2 (ln (ab (nb q))) c2, .slice A3 (ln (nd q)) c3], .bool b]) ∧ Num3C w' A1 A2 A3 q ∧ Below w.heap.size w w'
theorem retNumCB_fin {w W : World} {q : Cx} {A1 A2 A3 : Option Addr} {R d1 d2 d3 : Nat} {c b : Bool} (hB : Hid (Below w.heap.size w W)) (h1 : Num3C W A1 A2 A3 q) (hR : w.heap.size ≤ R) (r0 : W.cell? ⟨R, 0, none⟩ = some (.bool c)) :
    RetNumCB w b q (.returned (.tuple #[.agg #[.bool (sn (na q)), .slice A1 (ln (ab (na q))) d1, .bool (sn (nb q)), .slice A2 (ln (ab (nb q))) d2, .slice A3 (ln (nd q)) d3], .bool b]))
      (((((W.setCell ⟨R, 0, none⟩ (.bool (sn (na q)))).setCell ⟨R, 1, none⟩ (.slice A1 (ln (ab (na q))) d1)).setCell ⟨R, 2, none⟩ (.bool (sn (nb q)))).setCell ⟨R, 3, none⟩ (.slice A2 (ln (ab (nb q))) d2)).setCell ⟨R, 4, none⟩ (.slice A3 (ln (nd q)) d3)) := by
  obtain ⟨B1, B2, B3, e1, e2, e3, e, h⟩ := retNumC_fin (A1 := A1) (A2 := A2) (A3 := A3) (d1 := d1) (d2 := d2) (d3 := d3) hB h1 hR r0
  exact ⟨B1, B2, B3, e1, e2, e3, ret_and e, h⟩
/-- The reference's root of a real number. -/
def rqQ (x : Cx) : Cx := fr ((rt (ab (na x)) : Nat) : Int) 0 (rt (nd x))
def rqB (x : Cx) : Bool := decide ((rqQ x).mul (rqQ x) = x)
theorem rt_ne {n : Nat} (h : n ≠ 0) : rt n ≠ 0 := by
  intro e
  have h2 := (rt_spec n).2
  rw [e] at h2
  exact h (Nat.lt_one_iff.1 h2)
theorem sz_rq {x : Cx} {K : Nat} (h : sz K x) : sz K (rqQ x) := by
  refine fr_sz (rt_ne (nd_ne0 x)) ?_ ?_ ?_
  · exact Nat.le_trans (ln_mono (rt_self _)) h.1
  · show ln 0 ≤ K; rw [ln_zero]; omega
  · exact Nat.le_trans (ln_mono (rt_self _)) h.2.2
theorem rq_root {x : Cx} {t : Rat} (hx : x = ⟨t, 0⟩) (ht : 0 ≤ t) : IsR t (rqB x) (rqQ x) := by
  have hn := rep x
  have hb : nb x = 0 := nb_of (by rw [hx])
  obtain ⟨h1, h2, h3, h4⟩ := hn
  rw [hb, gcd_zero_r] at h2
  have hre : x.re = t := by rw [hx]
  rw [hre] at h3
  have ha : 0 ≤ na x := by
    have h5 : (0 : Rat) ≤ (na x : Rat) := by rw [h3]; exact Rat.mul_nonneg ht (nat_le_rat _)
    exact_mod_cast h5
  have q3 := rat_ne (Nat.pos_of_ne_zero (rt_ne (nd_ne0 x)))
  have hq : rqQ x = ⟨((rt (ab (na x)) : Nat) : Rat) / ((rt (nd x) : Nat) : Rat), 0⟩ := by
    unfold rqQ fr
    refine Cx.ext' rfl ?_
    show ((0 : Int) : Rat) / _ = 0
    rw [Rat.div_def]; simp
  have hw0 : (0 : Rat) ≤ ((rt (ab (na x)) : Nat) : Rat) / ((rt (nd x) : Nat) : Rat) := by
    rw [Rat.div_def]; exact Rat.mul_nonneg (nat_le_rat _) (Rat.le_of_lt (Rat.inv_pos.2 (by have p : 0 < rt (nd x) := Nat.pos_of_ne_zero (rt_ne (nd_ne0 x)); exact_mod_cast p)))
  have hm : ∀ w : Rat, ((⟨w, 0⟩ : Cx).mul ⟨w, 0⟩ = x) ↔ w * w = t := by
    intro w
    rw [hx]
    constructor
    · intro e; have := congrArg Cx.re e; simp only [Cx.mul] at this; grind
    · intro e; refine Cx.ext' ?_ ?_ <;> simp only [Cx.mul] <;> grind
  unfold rqB
  by_cases h : (rqQ x).mul (rqQ x) = x
  · rw [decide_eq_true h]
    refine .inl ⟨rfl, _, hw0, ?_, hq⟩
    rw [hq] at h
    exact (hm _).1 h
  · rw [decide_eq_false h]
    refine .inr ⟨rfl, fun w hw => h ?_⟩
    obtain ⟨s1, s2⟩ := sq_parts (a := na x) (b := nd x) (t := t) (w := w) h1 h2 h3 hw
    have e1 : rt (ab (na x)) = w.num.natAbs := rt_sq (by unfold ab; rw [← Int.natAbs_mul, ← s1])
    have e2 : rt (nd x) = w.den := rt_sq s2.symm
    rw [hq, (hm _), e1, e2]
    have hdr := rat_ne (Nat.pos_of_ne_zero w.den_nz)
    have h5 : w = (w.num : Rat) / (w.den : Rat) := by
      have := Rat.num_divInt_den w; rw [Rat.divInt_eq_div, Rat.intCast_natCast] at this; exact this.symm
    have h6 : ((w.num.natAbs : Nat) : Rat) * ((w.num.natAbs : Nat) : Rat) = (w.num : Rat) * (w.num : Rat) := by
      rw [← Rat.natCast_mul, ← Rat.intCast_mul, ← Int.natAbs_mul_self]; rfl
    conv at hw => lhs; rw [h5]
    rw [← hw, Rat.div_def, Rat.div_def]
    grind
theorem rnatRoot_e (x r : Nat) (hr : rt x = r) (A : Option Addr) (c : Nat) (w : World) (hx : Nat32 w A x) (hbx : ln x ≤ 17179869184) :
    Calls Tryz.prog 171 #[.slice A (ln x) c] w (RetNatC w r) := by
  subst hr; exact rnatRoot_any x A c w hx hbx
theorem rmake_p (r d : Nat) (A Dd : Option Addr) (cA cD : Nat) (w : World) (hx : Nat32 w A r) (hd : Nat32 w Dd d) (hbx : ln r ≤ 1099511627776) (hbd : ln d ≤ 1099511627776) (hd0 : d ≠ 0) :
    Calls Tryz.prog 100 #[.agg #[.bool false, .slice A (ln r) cA], .agg #[.bool false, .slice none 0 0], .slice Dd (ln d) cD] w (RetNumC w (fr (r : Int) 0 d)) := by
  have e1 : sn (r : Int) = false := by unfold sn; exact decide_eq_false (by omega)
  have e2 : ab (r : Int) = r := Int.natAbs_natCast r
  have h := rmake_re (r : Int) d A Dd cA cD w (by rw [e2]; exact hx) hd (by rw [e2]; exact hbx) hbd hd0
  rw [e1, e2] at h
  exact h
theorem rmul_e (z x y : Cx) (h : x.mul y = z) (A1 A2 A3 B1 B2 B3 : Option Addr) (cA1 cA2 cA3 cB1 cB2 cB3 : Nat) (w : World) (hx : Num3C w A1 A2 A3 x) (hy : Num3C w B1 B2 B3 y) (hsx : sz 137438953472 x) (hsy : sz 137438953472 y) :
    Calls Tryz.prog 31 #[.agg #[.bool (sn (na x)), .slice A1 (ln (ab (na x))) cA1, .bool (sn (nb x)), .slice A2 (ln (ab (nb x))) cA2, .slice A3 (ln (nd x)) cA3], .agg #[.bool (sn (na y)), .slice B1 (ln (ab (na y))) cB1, .bool (sn (nb y)), .slice B2 (ln (ab (nb y))) cB2, .slice B3 (ln (nd y)) cB3]] w (RetNumC w z) := by
  subst h; exact rmul_any x y A1 A2 A3 B1 B2 B3 cA1 cA2 cA3 cB1 cB2 cB3 w hx hy hsx hsy
theorem radd_e (z x y : Cx) (h : x.add y = z) (A1 A2 A3 B1 B2 B3 : Option Addr) (cA1 cA2 cA3 cB1 cB2 cB3 : Nat) (w : World) (hx : Num3C w A1 A2 A3 x) (hy : Num3C w B1 B2 B3 y) (hsx : sz 137438953472 x) (hsy : sz 137438953472 y) :
    Calls Tryz.prog 27 #[.agg #[.bool (sn (na x)), .slice A1 (ln (ab (na x))) cA1, .bool (sn (nb x)), .slice A2 (ln (ab (nb x))) cA2, .slice A3 (ln (nd x)) cA3], .agg #[.bool (sn (na y)), .slice B1 (ln (ab (na y))) cB1, .bool (sn (nb y)), .slice B2 (ln (ab (nb y))) cB2, .slice B3 (ln (nd y)) cB3]] w (RetNumC w z) := by
  subst h; exact radd_any x y A1 A2 A3 B1 B2 B3 cA1 cA2 cA3 cB1 cB2 cB3 w hx hy hsx hsy
theorem rsub_e (z x y : Cx) (h : x.sub y = z) (A1 A2 A3 B1 B2 B3 : Option Addr) (cA1 cA2 cA3 cB1 cB2 cB3 : Nat) (w : World) (hx : Num3C w A1 A2 A3 x) (hy : Num3C w B1 B2 B3 y) (hsx : sz 137438953472 x) (hsy : sz 137438953472 y) :
    Calls Tryz.prog 29 #[.agg #[.bool (sn (na x)), .slice A1 (ln (ab (na x))) cA1, .bool (sn (nb x)), .slice A2 (ln (ab (nb x))) cA2, .slice A3 (ln (nd x)) cA3], .agg #[.bool (sn (na y)), .slice B1 (ln (ab (na y))) cB1, .bool (sn (nb y)), .slice B2 (ln (ab (nb y))) cB2, .slice B3 (ln (nd y)) cB3]] w (RetNumC w z) := by
  subst h; exact rsub_num x y A1 A2 A3 B1 B2 B3 cA1 cA2 cA3 cB1 cB2 cB3 w hx hy hsx hsy
set_option maxRecDepth 100000 in
set_option maxHeartbeats 4000000 in
theorem rroot_num (x : Cx) (A1 A2 A3 : Option Addr) (cA1 cA2 cA3 : Nat) (w : World) (hx : Num3C w A1 A2 A3 x) (hsx : sz 100000000 x) :
    Calls Tryz.prog 134 #[.agg #[.bool (sn (na x)), .slice A1 (ln (ab (na x))) cA1, .bool (sn (nb x)), .slice A2 (ln (ab (nb x))) cA2, .slice A3 (ln (nd x)) cA3]] w (RetNumCB w (rqB x) (rqQ x)) := by
  obtain ⟨hx1, hx2, hx3⟩ := hx
  have HSX := Lib.hid hsx
  obtain ⟨r, hr⟩ : ∃ r, rt (ab (na x)) = r := ⟨_, rfl⟩
  obtain ⟨s, hs⟩ : ∃ r, rt (nd x) = r := ⟨_, rfl⟩
  have lr : Hid (ln r ≤ 100000000) := Lib.hid (by rw [← hr]; exact Nat.le_trans (ln_mono (rt_self _)) hsx.1)
  have ls : Hid (ln s ≤ 100000000) := Lib.hid (by rw [← hs]; exact Nat.le_trans (ln_mono (rt_self _)) hsx.2.2)
  have s0 : Hid (s ≠ 0) := Lib.hid (by rw [← hs]; exact rt_ne (nd_ne0 x))
  have zq : Hid (sz 100000000 (fr (r : Int) 0 s)) := Lib.hid (by have := sz_rq hsx; unfold rqQ at this; rw [hr, hs] at this; exact this)
  have eQ : rqQ x = fr (r : Int) 0 s := by unfold rqQ; rw [hr, hs]
  unfold rqB
  rw [eQ]
  obtain ⟨Q, hQ⟩ : ∃ q, q = fr (r : Int) 0 s := ⟨_, rfl⟩
  rw [← hQ] at zq ⊢
  obtain ⟨M, hM⟩ : ∃ q, Q.mul Q = q := ⟨_, rfl⟩
  rw [hM]
  have zm : Hid (sz 200000001 M) := Lib.hid (by rw [← hM]; exact sz.mono (sz_mul zq.out zq.out) (by omega))
  obtain ⟨b, hb⟩ : ∃ b, decide (M = x) = b := ⟨_, rfl⟩
  rw [hb]
  have HR := Lib.hid hr
  have HS := Lib.hid hs
  have HQ := Lib.hid hQ.symm
  have HM := Lib.hid hM
  have HB := Lib.hid hb
  clear hsx hr hs eQ hQ hM hb
  go_enter Tryz.func134, Tryz.ntmps134
  go_wp2_with fail
  obtain ⟨W, hW⟩ : ∃ W : World, W = ((w.alloc (.cells #[.bool (sn (na x)), .slice A1 (ln (ab (na x))) cA1, .bool (sn (nb x)), .slice A2 (ln (ab (nb x))) cA2, .slice A3 (ln (nd x)) cA3] 34)).alloc (.cells #[.bool false, .slice none 0 0, .bool false, .slice none 0 0, .slice none 0 0] 34)) := ⟨_, rfl⟩
  have s0_0 : W.cell? ⟨w.heap.size, 0, none⟩ = some (.bool (sn (na x))) := by subst hW; go_simp
  have s0_1 : W.cell? ⟨w.heap.size, 1, none⟩ = some (.slice A1 (ln (ab (na x))) cA1) := by subst hW; go_simp
  have s0_2 : W.cell? ⟨w.heap.size, 2, none⟩ = some (.bool (sn (nb x))) := by subst hW; go_simp
  have s0_3 : W.cell? ⟨w.heap.size, 3, none⟩ = some (.slice A2 (ln (ab (nb x))) cA2) := by subst hW; go_simp
  have s0_4 : W.cell? ⟨w.heap.size, 4, none⟩ = some (.slice A3 (ln (nd x)) cA3) := by subst hW; go_simp
  have r0 : W.cell? ⟨w.heap.size + 1, 0, none⟩ = some (.bool false) := by subst hW; go_simp
  have f0 : W.frozen? ⟨w.heap.size + 1, 0, none⟩ = false := by subst hW; go_simp
  have r1 : W.cell? ⟨w.heap.size + 1, 1, none⟩ = some (.slice none 0 0) := by subst hW; go_simp
  have f1 : W.frozen? ⟨w.heap.size + 1, 1, none⟩ = false := by subst hW; go_simp
  have r2 : W.cell? ⟨w.heap.size + 1, 2, none⟩ = some (.bool false) := by subst hW; go_simp
  have f2 : W.frozen? ⟨w.heap.size + 1, 2, none⟩ = false := by subst hW; go_simp
  have r3 : W.cell? ⟨w.heap.size + 1, 3, none⟩ = some (.slice none 0 0) := by subst hW; go_simp
  have f3 : W.frozen? ⟨w.heap.size + 1, 3, none⟩ = false := by subst hW; go_simp
  have r4 : W.cell? ⟨w.heap.size + 1, 4, none⟩ = some (.slice none 0 0) := by subst hW; go_simp
  have f4 : W.frozen? ⟨w.heap.size + 1, 4, none⟩ = false := by subst hW; go_simp
  have HW : Below w.heap.size w W := by subst hW; exact (((Below.refl w.heap.size w).alloc (Nat.le_refl _) _).alloc (by simp) _)
  have l0 : w.heap.size < W.heap.size := by subst hW; simp <;> omega
  have l1 : w.heap.size + 1 < W.heap.size := by subst hW; simp
  have n0 : w.heap.size ≠ w.heap.size + 1 := by omega
  replace hx1 := hx1.to HW
  replace hx2 := hx2.to HW
  replace hx3 := hx3.to HW
  have rz : NewVarN 0 (w.heap.size + 1) W := ⟨Nat.zero_le _, l1, ⟨r0, r1, r2, r3, r4⟩, f0, f1, f2, f3, f4⟩
  clear r0 r1 r2 r3 r4 f0 f1 f2 f3 f4
  rw [← hW]
  clear hW
  replace HW := Lib.hid HW
  go_region_held3 (fun w' => w'.cell? ⟨w.heap.size, 1, none⟩ = some (.slice A1 (ln (ab (na x))) cA1) ∧ w'.cell? ⟨w.heap.size, 4, none⟩ = some (.slice A3 (ln (nd x)) cA3)) (first | with_reducible exact ⟨s0_1, s0_4⟩ | with_reducible exact ⟨(keeps (keeps (keeps (keeps (keeps s0_1 n0) n0) n0) n0) n0), (keeps (keeps (keeps (keeps (keeps s0_4 n0) n0) n0) n0) n0)⟩ | exact ⟨s0_1, s0_4⟩) (first
    | (have _ := mk0; go_at_call 171; refine (rnatRoot_e (nd x) s HS.out A3 cA3 _ (by exact hx3) (by have := HSX.out; unfold sz at this; omega)).mono ?_; rintro e w2 ⟨T2, cT2, rfl, i2, hb2⟩; replace s0_0 := keepc hb2 s0_0 l0; replace s0_1 := keepc hb2 s0_1 l0; replace s0_2 := keepc hb2 s0_2 l0; replace s0_3 := keepc hb2 s0_3 l0; replace s0_4 := keepc hb2 s0_4 l0; replace rz := rz.to hb2; replace l0 := Nat.lt_of_lt_of_le l0 hb2.size; replace l1 := Nat.lt_of_lt_of_le l1 hb2.size; replace hx1 := hx1.to hb2; replace hx2 := hx2.to hb2; replace hx3 := hx3.to hb2; replace i1 := i1.to hb2; replace HW := Lib.hid (hstep HW hb2); clear hb2; have mk1 : True := trivial)
    | (go_at_call 171; refine (rnatRoot_e (ab (na x)) r HR.out A1 cA1 _ (by exact hx1) (by have := HSX.out; unfold sz at this; omega)).mono ?_; rintro e w1 ⟨T1, cT1, rfl, i1, hb1⟩; have hb1 := undrew hb1; replace s0_0 := keepc hb1 s0_0 l0; replace s0_1 := keepc hb1 s0_1 l0; replace s0_2 := keepc hb1 s0_2 l0; replace s0_3 := keepc hb1 s0_3 l0; replace s0_4 := keepc hb1 s0_4 l0; replace rz := rz.to hb1; replace l0 := Nat.lt_of_lt_of_le l0 hb1.size; replace l1 := Nat.lt_of_lt_of_le l1 hb1.size; replace hx1 := hx1.to hb1; replace hx2 := hx2.to hb1; replace hx3 := hx3.to hb1; replace HW := Lib.hid (hstep HW hb1); clear hb1; have mk0 : True := trivial))
  go_wp2_with fail
  refine (rmake_p r s T1 T2 cT1 cT2 _ (by exact i1) (by exact i2) (Nat.le_trans lr.out (by omega)) (Nat.le_trans ls.out (by omega)) s0.out).mono ?_
  rintro e w3 ⟨Z1, Z2, Z3, cZ1, cZ2, cZ3, rfl, hz, hb3⟩
  rw [HQ.out] at hz -- 3
  replace s0_0 := keepc hb3 s0_0 l0
  replace s0_1 := keepc hb3 s0_1 l0
  replace s0_2 := keepc hb3 s0_2 l0
  replace s0_3 := keepc hb3 s0_3 l0
  replace s0_4 := keepc hb3 s0_4 l0
  replace rz := rz.to hb3
  replace l0 := Nat.lt_of_lt_of_le l0 hb3.size
  replace l1 := Nat.lt_of_lt_of_le l1 hb3.size
  replace hx1 := hx1.to hb3
  replace hx2 := hx2.to hb3
  replace hx3 := hx3.to hb3
  replace i1 := i1.to hb3
  replace i2 := i2.to hb3
  replace HW := Lib.hid (hstep HW hb3)
  clear hb3
  rw [HQ.out]
  go_upto_region 3 with fail
  obtain ⟨w4, hX⟩ : ∃ X : World, X = w3.alloc (.cells #[.bool (sn (na Q)), .slice Z1 (ln (ab (na Q))) cZ1, .bool (sn (nb Q)), .slice Z2 (ln (ab (nb Q))) cZ2, .slice Z3 (ln (nd Q)) cZ3] 34) := ⟨_, rfl⟩
  rw [← hX]
  have hb4 : Below w3.heap.size w3 w4 := by rw [hX]; exact (Below.refl _ _).alloc (Nat.le_refl _) _
  have t0_0 : w4.cell? ⟨w3.heap.size, 0, none⟩ = some (.bool (sn (na Q))) := by subst hX; go_simp
  have t0_1 : w4.cell? ⟨w3.heap.size, 1, none⟩ = some (.slice Z1 (ln (ab (na Q))) cZ1) := by subst hX; go_simp
  have t0_2 : w4.cell? ⟨w3.heap.size, 2, none⟩ = some (.bool (sn (nb Q))) := by subst hX; go_simp
  have t0_3 : w4.cell? ⟨w3.heap.size, 3, none⟩ = some (.slice Z2 (ln (ab (nb Q))) cZ2) := by subst hX; go_simp
  have t0_4 : w4.cell? ⟨w3.heap.size, 4, none⟩ = some (.slice Z3 (ln (nd Q)) cZ3) := by subst hX; go_simp
  have l100 : w3.heap.size < w4.heap.size := by rw [hX]; simp
  have n100 : w3.heap.size ≠ w.heap.size + 1 := by omega
  have m100 : w.heap.size ≤ w3.heap.size := by omega
  replace s0_0 := keepc hb4 s0_0 l0
  replace s0_1 := keepc hb4 s0_1 l0
  replace s0_2 := keepc hb4 s0_2 l0
  replace s0_3 := keepc hb4 s0_3 l0
  replace s0_4 := keepc hb4 s0_4 l0
  replace rz := rz.to hb4
  replace l0 := Nat.lt_of_lt_of_le l0 hb4.size
  replace l1 := Nat.lt_of_lt_of_le l1 hb4.size
  replace hx1 := hx1.to hb4
  replace hx2 := hx2.to hb4
  replace hx3 := hx3.to hb4
  replace i1 := i1.to hb4
  replace i2 := i2.to hb4
  replace hz := hz.to hb4
  replace HW := Lib.hid (hstep HW hb4)
  clear hb4
  clear hX
  obtain ⟨g0, hg0⟩ : ∃ g, g = w3.heap.size := ⟨_, rfl⟩
  rw [← hg0] at t0_0 t0_1 t0_2 t0_3 t0_4 l100 n100 m100
  rw [← hg0]
  clear hg0
  go_region_held3 (fun w' => w'.cell? ⟨w.heap.size, 0, none⟩ = some (.bool (sn (na x))) ∧ w'.cell? ⟨w.heap.size, 1, none⟩ = some (.slice A1 (ln (ab (na x))) cA1) ∧ w'.cell? ⟨w.heap.size, 2, none⟩ = some (.bool (sn (nb x))) ∧ w'.cell? ⟨w.heap.size, 3, none⟩ = some (.slice A2 (ln (ab (nb x))) cA2) ∧ w'.cell? ⟨w.heap.size, 4, none⟩ = some (.slice A3 (ln (nd x)) cA3) ∧ w'.cell? ⟨g0, 0, none⟩ = some (.bool (sn (na Q))) ∧ w'.cell? ⟨g0, 1, none⟩ = some (.slice Z1 (ln (ab (na Q))) cZ1) ∧ w'.cell? ⟨g0, 2, none⟩ = some (.bool (sn (nb Q))) ∧ w'.cell? ⟨g0, 3, none⟩ = some (.slice Z2 (ln (ab (nb Q))) cZ2) ∧ w'.cell? ⟨g0, 4, none⟩ = some (.slice Z3 (ln (nd Q)) cZ3)) (first | with_reducible exact ⟨s0_0, s0_1, s0_2, s0_3, s0_4, t0_0, t0_1, t0_2, t0_3, t0_4⟩ | with_reducible exact ⟨(keeps (keeps (keeps (keeps (keeps s0_0 n0) n0) n0) n0) n0), (keeps (keeps (keeps (keeps (keeps s0_1 n0) n0) n0) n0) n0), (keeps (keeps (keeps (keeps (keeps s0_2 n0) n0) n0) n0) n0), (keeps (keeps (keeps (keeps (keeps s0_3 n0) n0) n0) n0) n0), (keeps (keeps (keeps (keeps (keeps s0_4 n0) n0) n0) n0) n0), (keeps (keeps (keeps (keeps (keeps t0_0 n100) n100) n100) n100) n100), (keeps (keeps (keeps (keeps (keeps t0_1 n100) n100) n100) n100) n100), (keeps (keeps (keeps (keeps (keeps t0_2 n100) n100) n100) n100) n100), (keeps (keeps (keeps (keeps (keeps t0_3 n100) n100) n100) n100) n100), (keeps (keeps (keeps (keeps (keeps t0_4 n100) n100) n100) n100) n100)⟩ | exact ⟨s0_0, s0_1, s0_2, s0_3, s0_4, t0_0, t0_1, t0_2, t0_3, t0_4⟩) (first
    | (have _ := mk0; go_at_call 49; refine (rsame_any M x X1 X2 X3 A1 A2 A3 cX1 cX2 cX3 cA1 cA2 cA3 _ (by exact xm) (by exact ⟨hx1, hx2, hx3⟩) (sz.mono zm.out (by omega)) (sz.mono HSX.out (by omega))).mono ?_; rintro e w6 ⟨rfl, hb6⟩; replace s0_0 := keepc hb6 s0_0 l0; replace s0_1 := keepc hb6 s0_1 l0; replace s0_2 := keepc hb6 s0_2 l0; replace s0_3 := keepc hb6 s0_3 l0; replace s0_4 := keepc hb6 s0_4 l0; replace t0_0 := keepc hb6 t0_0 l100; replace t0_1 := keepc hb6 t0_1 l100; replace t0_2 := keepc hb6 t0_2 l100; replace t0_3 := keepc hb6 t0_3 l100; replace t0_4 := keepc hb6 t0_4 l100; replace rz := rz.to hb6; replace l0 := Nat.lt_of_lt_of_le l0 hb6.size; replace l1 := Nat.lt_of_lt_of_le l1 hb6.size; replace l100 := Nat.lt_of_lt_of_le l100 hb6.size; replace hx1 := hx1.to hb6; replace hx2 := hx2.to hb6; replace hx3 := hx3.to hb6; replace i1 := i1.to hb6; replace i2 := i2.to hb6; replace hz := hz.to hb6; replace xm := xm.to hb6; replace HW := Lib.hid (hstep HW hb6); clear hb6; obtain ⟨_, _, ⟨r0, r1, r2, r3, r4⟩, f0, f1, f2, f3, f4⟩ := rz; have mk1 : True := trivial)
    | (go_at_call 31; refine (rmul_e M Q Q HM.out Z1 Z2 Z3 Z1 Z2 Z3 cZ1 cZ2 cZ3 cZ1 cZ2 cZ3 _ (by exact hz) (by exact hz) (sz.mono zq.out (by omega)) (sz.mono zq.out (by omega))).mono ?_; rintro e w5 ⟨X1, X2, X3, cX1, cX2, cX3, rfl, xm, hb5⟩; have hb5 := undrew hb5; replace s0_0 := keepc hb5 s0_0 l0; replace s0_1 := keepc hb5 s0_1 l0; replace s0_2 := keepc hb5 s0_2 l0; replace s0_3 := keepc hb5 s0_3 l0; replace s0_4 := keepc hb5 s0_4 l0; replace t0_0 := keepc hb5 t0_0 l100; replace t0_1 := keepc hb5 t0_1 l100; replace t0_2 := keepc hb5 t0_2 l100; replace t0_3 := keepc hb5 t0_3 l100; replace t0_4 := keepc hb5 t0_4 l100; replace rz := rz.to hb5; replace l0 := Nat.lt_of_lt_of_le l0 hb5.size; replace l1 := Nat.lt_of_lt_of_le l1 hb5.size; replace l100 := Nat.lt_of_lt_of_le l100 hb5.size; replace hx1 := hx1.to hb5; replace hx2 := hx2.to hb5; replace hx3 := hx3.to hb5; replace i1 := i1.to hb5; replace i2 := i2.to hb5; replace hz := hz.to hb5; replace HW := Lib.hid (hstep HW hb5); clear hb5; have mk0 : True := trivial))
  go_wp2_with fail
  rw [HB.out]
  exact bodyPost_ret (v := .tuple #[.agg #[.bool (sn (na Q)), .slice Z1 (ln (ab (na Q))) cZ1, .bool (sn (nb Q)), .slice Z2 (ln (ab (nb Q))) cZ2, .slice Z3 (ln (nd Q)) cZ3], .bool b]) (by simp [results, Tryz.results134, go_sem, r0, r1, r2, r3, r4, f0, f1, f2, f3, f4]) rfl (retNumCB_fin HW hz (by omega) r0)

end Go.Proofs.YtgpmlhpgdalheaaGreat

namespace Go.Proofs.YtgpmlhpgdalheaaGreat
open Go.RowKit Pl
set_option linter.unusedVariables false
set_option linter.unusedSimpArgs false

theorem num3C_mk {w : World} {A1 A2 A3 : Option Addr} {q : Cx} (h1 : Nat32 w A1 (ab (na q))) (h2 : Nat32 w A2 (ab (nb q))) (h3 : Nat32 w A3 (nd q)) : Num3C w A1 A2 A3 q := ⟨h1, h2, h3⟩
def hf : Cx := fr 1 0 2
theorem half_mul {a b : Rat} (x : Cx) (hx : x = ⟨a, 0⟩) : x.mul hf = ⟨a / 2, 0⟩ := by
  rw [hx]
  have e : hf = ⟨1 / 2, 0⟩ := by
    unfold hf fr
    refine Cx.ext' rfl ?_
    show ((0 : Int) : Rat) / _ = 0
    rw [Rat.div_def]; simp
  rw [e]
  refine Cx.ext' ?_ ?_ <;> simp only [Cx.mul, Rat.div_def] <;> grind
theorem im_sign (x : Cx) : sn (nb x) = decide (x.im < 0) := by
  have h := nb_eq x
  have p : (0 : Rat) < (nd x : Rat) := by have := nd_pos x; exact_mod_cast this
  unfold sn
  rw [Bool.eq_iff_iff, decide_eq_true_eq, decide_eq_true_eq]
  constructor
  · intro q
    have q2 : (nb x : Rat) < 0 := by exact_mod_cast q
    rw [h] at q2
    refine Decidable.byContradiction fun r => ?_
    have := Rat.mul_nonneg (show 0 ≤ x.im by grind) (Rat.le_of_lt p)
    grind
  · intro q
    have q2 : x.im * (nd x : Rat) < 0 := by
      have := Rat.mul_pos (show 0 < -x.im by grind) p
      grind
    rw [← h] at q2
    exact_mod_cast q2
/-- What the reference computes is a root. -/
theorem ref_law (x : Cx) (u v : Cx) (b2 b3 : Bool) (hb2 : rqB ((x.reOf.add (rqQ x.norm)).mul hf) = b2) (hu : rqQ ((x.reOf.add (rqQ x.norm)).mul hf) = u) (hb3 : rqB (((rqQ x.norm).sub x.reOf).mul hf) = b3) (hv : rqQ (((rqQ x.norm).sub x.reOf).mul hf) = v) :
    (rqB x.norm = false → IsRt x false Cx.zero) ∧ (rqB x.norm = true → b2 = false → IsRt x false Cx.zero) ∧ (rqB x.norm = true → b3 = false → IsRt x false Cx.zero) ∧
    (rqB x.norm = true → b2 = true → b3 = true → (sn (nb x) = false → IsRt x true (u.add (v.mul ⟨0, 1⟩))) ∧ (sn (nb x) = true → IsRt x true (u.add (v.neg.mul ⟨0, 1⟩)))) := by
  have h0 : 0 ≤ x.nrm := by unfold Cx.nrm; have := sq_nonneg x.re; have := sq_nonneg x.im; grind
  have h1 := rq_root (x := x.norm) (t := x.nrm) rfl h0
  rcases h1 with ⟨e1, r, hr, hn, hq⟩ | ⟨e1, hno⟩
  · obtain ⟨p1, p2⟩ := r_above hr hn
    rw [hq] at hb2 hu hb3 hv
    have t1 : (x.reOf.add ⟨r, 0⟩).mul hf = ⟨(x.re + r) / 2, 0⟩ := half_mul (b := 0) _ (by refine Cx.ext' rfl ?_; simp only [Cx.add, Cx.reOf]; grind)
    have t2 : ((⟨r, 0⟩ : Cx).sub x.reOf).mul hf = ⟨(r - x.re) / 2, 0⟩ := half_mul (b := 0) _ (by refine Cx.ext' ?_ ?_ <;> simp only [Cx.sub, Cx.add, Cx.neg, Cx.reOf] <;> grind)
    have n1 : 0 ≤ (x.re + r) / 2 := by rw [Rat.div_def]; grind
    have n2 : 0 ≤ (r - x.re) / 2 := by rw [Rat.div_def]; grind
    have h2 := rq_root t1 n1
    have h3 := rq_root t2 n2
    rw [hb2, hu] at h2
    rw [hb3, hv] at h3
    refine ⟨fun e => (by rw [e] at e1; cases e1), fun _ e => ?_, fun _ e => ?_, fun _ e e' => ?_⟩
    · rcases h2 with ⟨q, _⟩ | ⟨_, q⟩
      · rw [e] at q; cases q
      · exact .inr ⟨rfl, rfl, no_half hr hn q⟩
    · rcases h3 with ⟨q, _⟩ | ⟨_, q⟩
      · rw [e] at q; cases q
      · exact .inr ⟨rfl, rfl, no_other hr hn q⟩
    · rcases h2 with ⟨_, a, ha, ha2, hua⟩ | ⟨q, _⟩
      · rcases h3 with ⟨_, b, hb, hb2', hvb⟩ | ⟨q, _⟩
        · have k := ref_root hr hn ha ha2 hb hb2'
          rw [im_sign, hua, hvb]
          refine ⟨fun s => ?_, fun s => ?_⟩
          · rw [if_neg (of_decide_eq_false s)] at k; exact k
          · rw [if_pos (of_decide_eq_true s)] at k; exact k
        · rw [e'] at q; cases q
      · rw [e] at q; cases q
  · exact ⟨fun _ => .inr ⟨rfl, rfl, no_norm hno⟩, fun e => (by rw [e] at e1; cases e1), fun e => (by rw [e] at e1; cases e1), fun e => (by rw [e] at e1; cases e1)⟩
theorem nat2w_new (V : World) (T : TypeId) : Nat32 (V.alloc (.cells #[.int .u32 2] T)) (some ⟨V.heap.size, 0, none⟩) 2 := fun _ => ⟨V.heap.size, rfl, by simp, fun j hj => by
  have h2 : ln 2 = 1 := ln_of_lt (by decide) (.inr (by decide))
  rw [h2] at hj; obtain rfl : j = 0 := by omega
  rw [show wd 2 0 = 2 by rw [wd_0]]
  go_simp⟩
theorem rint_1 (z : Int) (hz : z = 1) (w : World) : Calls Tryz.prog 126 #[.int .i64 1] w (RetWholeC w z) := by
  subst hz; exact rintOf_any 1 w (by omega) (by omega)
theorem rmake_half (z : Int) (H : Cx) (hz : z = 1) (hH : H = hf) (T G : Option Addr) (cT : Nat) (w : World) (hT : Nat32 w T (ab z)) (hG : Nat32 w G 2) :
    Calls Tryz.prog 100 #[.agg #[.bool (sn z), .slice T (ln (ab z)) cT], .agg #[.bool false, .slice none 0 0], .slice G 1 1] w (RetNumC w H) := by
  have h2 : ln 2 = 1 := ln_of_lt (by decide) (.inr (by decide))
  have h1 : ln (ab z) ≤ 1 := by rw [hz]; show ln 1 ≤ 1; rw [ln_one]; omega
  have h := rmake_re z 2 T G cT 1 w hT hG (by omega) (by omega) (by omega)
  rw [h2] at h
  rw [hH]; unfold hf; rw [hz] at h ⊢; exact h
theorem rmul_iu (r i m : Cx) (z : Int) (hz : z = 1) (hi : i = ⟨0, 1⟩) (hm : r.mul i = m) (B1 B2 B3 T G : Option Addr) (cB1 cB2 cB3 cT : Nat) (w : World) (hx : Num3C w B1 B2 B3 r) (hT : Nat32 w T (ab z)) (hG : Nat32 w G 1) (hs : sz 100000000 r) :
    Calls Tryz.prog 31 #[.agg #[.bool (sn (na r)), .slice B1 (ln (ab (na r))) cB1, .bool (sn (nb r)), .slice B2 (ln (ab (nb r))) cB2, .slice B3 (ln (nd r)) cB3], .agg #[.bool false, .slice none 0 0, .bool (sn z), .slice T (ln (ab z)) cT, .slice G 1 1]] w (RetNumC w m) := by
  subst hz hi hm
  obtain ⟨e1, e2, e3⟩ := iu_form
  have h := rmul_any r ⟨0, 1⟩ B1 B2 B3 none T G cB1 cB2 cB3 0 cT 1 w hx ⟨by rw [e1]; exact Nat32.zero _ _, by rw [e2]; exact hT, by rw [e3]; exact hG⟩ (sz.mono hs (by omega)) (sz.mono iu_sz (by omega))
  rw [e1, e2, e3, show ab 0 = 0 from rfl, ln_zero, ln_one, show sn 0 = false from rfl] at h
  exact h
theorem rroot_e (x q : Cx) (b : Bool) (hb : rqB x = b) (hq : rqQ x = q) (A1 A2 A3 : Option Addr) (cA1 cA2 cA3 : Nat) (w : World) (hx : Num3C w A1 A2 A3 x) (hsx : sz 100000000 x) :
    Calls Tryz.prog 134 #[.agg #[.bool (sn (na x)), .slice A1 (ln (ab (na x))) cA1, .bool (sn (nb x)), .slice A2 (ln (ab (nb x))) cA2, .slice A3 (ln (nd x)) cA3]] w (RetNumCB w b q) := by
  subst hb hq; exact rroot_num x A1 A2 A3 cA1 cA2 cA3 w hx hsx
theorem rnorm_e (x q : Cx) (hq : x.norm = q) (A1 A2 A3 : Option Addr) (cA1 cA2 cA3 : Nat) (w : World) (hx : Num3C w A1 A2 A3 x) (hsx : sz 137438953472 x) :
    Calls Tryz.prog 39 #[.agg #[.bool (sn (na x)), .slice A1 (ln (ab (na x))) cA1, .bool (sn (nb x)), .slice A2 (ln (ab (nb x))) cA2, .slice A3 (ln (nd x)) cA3]] w (RetNumC w q) := by
  subst hq; exact rnorm_num x A1 A2 A3 cA1 cA2 cA3 w hx hsx
theorem rre_e (x q : Cx) (hq : x.reOf = q) (A1 A2 A3 : Option Addr) (cA1 cA2 cA3 : Nat) (w : World) (hx : Num3C w A1 A2 A3 x) (hsx : sz 137438953472 x) :
    Calls Tryz.prog 42 #[.agg #[.bool (sn (na x)), .slice A1 (ln (ab (na x))) cA1, .bool (sn (nb x)), .slice A2 (ln (ab (nb x))) cA2, .slice A3 (ln (nd x)) cA3]] w (RetNumC w q) := by
  subst hq; exact rre_num x A1 A2 A3 cA1 cA2 cA3 w hx hsx
theorem rneg_e (x q : Cx) (hq : x.neg = q) (A1 A2 A3 : Option Addr) (cA1 cA2 cA3 : Nat) (w : World) (hx : Num3C w A1 A2 A3 x) :
    Calls Tryz.prog 35 #[.agg #[.bool (sn (na x)), .slice A1 (ln (ab (na x))) cA1, .bool (sn (nb x)), .slice A2 (ln (ab (nb x))) cA2, .slice A3 (ln (nd x)) cA3]] w (RetNumC w q) := by
  subst hq; exact rneg_num x A1 A2 A3 cA1 cA2 cA3 w hx
set_option maxHeartbeats 4000000 in
theorem rsqrt_zero (x : Cx) (A1 A2 A3 : Option Addr) (cA1 cA2 cA3 : Nat) (w : World) (hx : Num3C w A1 A2 A3 x) (hsx : sz 1000000 x) (h0 : x = Cx.zero) :
    Calls Tryz.prog 72 #[.agg #[.bool (sn (na x)), .slice A1 (ln (ab (na x))) cA1, .bool (sn (nb x)), .slice A2 (ln (ab (nb x))) cA2, .slice A3 (ln (nd x)) cA3]] w (fun e w' => ∃ b q, IsRt x b q ∧ RetNumCB w b q e w') := by
  have t : decide (x = Cx.zero) = true := decide_eq_true h0
  have L : Hid (IsRt x true x) := Lib.hid (.inl ⟨rfl, by rw [h0]; refine Cx.ext' ?_ ?_ <;> simp only [Cx.mul, Cx.zero] <;> grind, .inr ⟨by rw [h0]; rfl, by rw [h0]; show (0 : Rat) ≤ 0; grind⟩⟩)
  clear hsx h0
  go_enter Tryz.func72, Tryz.ntmps72
  go_wp2_with fail
  obtain ⟨W, hW⟩ : ∃ W : World, W = ((w.alloc (.cells #[.bool (sn (na x)), .slice A1 (ln (ab (na x))) cA1, .bool (sn (nb x)), .slice A2 (ln (ab (nb x))) cA2, .slice A3 (ln (nd x)) cA3] 34)).alloc (.cells #[.bool false, .slice none 0 0, .bool false, .slice none 0 0, .slice none 0 0] 34)) := ⟨_, rfl⟩
  have s0_0 : W.cell? ⟨w.heap.size, 0, none⟩ = some (.bool (sn (na x))) := by subst hW; go_simp
  have s0_1 : W.cell? ⟨w.heap.size, 1, none⟩ = some (.slice A1 (ln (ab (na x))) cA1) := by subst hW; go_simp
  have s0_2 : W.cell? ⟨w.heap.size, 2, none⟩ = some (.bool (sn (nb x))) := by subst hW; go_simp
  have s0_3 : W.cell? ⟨w.heap.size, 3, none⟩ = some (.slice A2 (ln (ab (nb x))) cA2) := by subst hW; go_simp
  have s0_4 : W.cell? ⟨w.heap.size, 4, none⟩ = some (.slice A3 (ln (nd x)) cA3) := by subst hW; go_simp
  have r0 : W.cell? ⟨w.heap.size + 1, 0, none⟩ = some (.bool false) := by subst hW; go_simp
  have f0 : W.frozen? ⟨w.heap.size + 1, 0, none⟩ = false := by subst hW; go_simp
  have r1 : W.cell? ⟨w.heap.size + 1, 1, none⟩ = some (.slice none 0 0) := by subst hW; go_simp
  have f1 : W.frozen? ⟨w.heap.size + 1, 1, none⟩ = false := by subst hW; go_simp
  have r2 : W.cell? ⟨w.heap.size + 1, 2, none⟩ = some (.bool false) := by subst hW; go_simp
  have f2 : W.frozen? ⟨w.heap.size + 1, 2, none⟩ = false := by subst hW; go_simp
  have r3 : W.cell? ⟨w.heap.size + 1, 3, none⟩ = some (.slice none 0 0) := by subst hW; go_simp
  have f3 : W.frozen? ⟨w.heap.size + 1, 3, none⟩ = false := by subst hW; go_simp
  have r4 : W.cell? ⟨w.heap.size + 1, 4, none⟩ = some (.slice none 0 0) := by subst hW; go_simp
  have f4 : W.frozen? ⟨w.heap.size + 1, 4, none⟩ = false := by subst hW; go_simp
  have HW : Below w.heap.size w W := by subst hW; exact (((Below.refl w.heap.size w).alloc (Nat.le_refl _) _).alloc (by simp) _)
  have l0 : w.heap.size < W.heap.size := by subst hW; simp <;> omega
  have l1 : w.heap.size + 1 < W.heap.size := by subst hW; simp
  have n0 : w.heap.size ≠ w.heap.size + 1 := by omega
  replace hx := hx.to HW
  have rz : NewVarN 0 (w.heap.size + 1) W := ⟨Nat.zero_le _, l1, ⟨r0, r1, r2, r3, r4⟩, f0, f1, f2, f3, f4⟩
  clear r0 r1 r2 r3 r4 f0 f1 f2 f3 f4
  rw [← hW]
  clear hW
  replace HW := Lib.hid HW
  refine (rzero_any x A1 A2 A3 cA1 cA2 cA3 _ (by exact hx)).mono ?_
  rintro e w1 ⟨rfl, hb1⟩
  replace s0_0 := keepc hb1 s0_0 l0
  replace s0_1 := keepc hb1 s0_1 l0
  replace s0_2 := keepc hb1 s0_2 l0
  replace s0_3 := keepc hb1 s0_3 l0
  replace s0_4 := keepc hb1 s0_4 l0
  replace rz := rz.to hb1
  replace l0 := Nat.lt_of_lt_of_le l0 hb1.size
  replace l1 := Nat.lt_of_lt_of_le l1 hb1.size
  replace hx := hx.to hb1
  replace HW := Lib.hid (hstep HW hb1)
  clear hb1
  rw [t]
  obtain ⟨_, _, ⟨r0, r1, r2, r3, r4⟩, f0, f1, f2, f3, f4⟩ := rz
  go_wp2_with fail
  exact bodyPost_ret (v := .tuple #[.agg #[.bool (sn (na x)), .slice A1 (ln (ab (na x))) cA1, .bool (sn (nb x)), .slice A2 (ln (ab (nb x))) cA2, .slice A3 (ln (nd x)) cA3], .bool true]) (by simp [results, Tryz.results72, go_sem, r0, r1, r2, r3, r4, f0, f1, f2, f3, f4]) rfl ⟨true, x, L.out, retNumCB_fin HW hx (by omega) r0⟩

set_option maxRecDepth 100000 in
set_option maxHeartbeats 4000000 in
theorem rsqrt_more (x : Cx) (A1 A2 A3 : Option Addr) (cA1 cA2 cA3 : Nat) (w : World) (hx : Num3C w A1 A2 A3 x) (hsx : sz 1000000 x) (h0 : x ≠ Cx.zero) :
    Calls Tryz.prog 72 #[.agg #[.bool (sn (na x)), .slice A1 (ln (ab (na x))) cA1, .bool (sn (nb x)), .slice A2 (ln (ab (nb x))) cA2, .slice A3 (ln (nd x)) cA3]] w (fun e w' => ∃ b q, IsRt x b q ∧ RetNumCB w b q e w') := by
  have t : decide (x = Cx.zero) = false := decide_eq_false h0
  have HSX := Lib.hid hsx
  obtain ⟨N, hN⟩ : ∃ q, x.norm = q := ⟨_, rfl⟩
  obtain ⟨r, hr⟩ : ∃ q, rqQ N = q := ⟨_, rfl⟩
  obtain ⟨b1, hb1⟩ : ∃ b, rqB N = b := ⟨_, rfl⟩
  obtain ⟨H, hH⟩ : ∃ q, q = hf := ⟨_, rfl⟩
  obtain ⟨R0, hR0⟩ : ∃ q, x.reOf = q := ⟨_, rfl⟩
  obtain ⟨S1, hS1⟩ : ∃ q, R0.add r = q := ⟨_, rfl⟩
  obtain ⟨U0, hU0⟩ : ∃ q, S1.mul H = q := ⟨_, rfl⟩
  obtain ⟨D1, hD1⟩ : ∃ q, r.sub R0 = q := ⟨_, rfl⟩
  obtain ⟨V0, hV0⟩ : ∃ q, D1.mul H = q := ⟨_, rfl⟩
  obtain ⟨u, hu⟩ : ∃ q, rqQ U0 = q := ⟨_, rfl⟩
  obtain ⟨b2, hb2⟩ : ∃ b, rqB U0 = b := ⟨_, rfl⟩
  obtain ⟨v, hv⟩ : ∃ q, rqQ V0 = q := ⟨_, rfl⟩
  obtain ⟨b3, hb3⟩ : ∃ b, rqB V0 = b := ⟨_, rfl⟩
  have LAW := ref_law x u v b2 b3 (by rw [hN, hR0, hr, hS1, ← hH, hU0, hb2]) (by rw [hN, hR0, hr, hS1, ← hH, hU0, hu]) (by rw [hN, hR0, hr, hD1, ← hH, hV0, hb3]) (by rw [hN, hR0, hr, hD1, ← hH, hV0, hv])
  rw [hN, hb1] at LAW
  have zH : sz 1 H := by rw [hH]; exact fr_sz (by omega) (by show ln 1 ≤ 1; rw [ln_one]; omega) (by show ln 0 ≤ 1; rw [ln_zero]; omega) (by exact ln_le (by decide))
  have zN : sz 2000001 N := by rw [← hN]; exact sz.mono (sz_norm hsx) (by omega)
  have zr : sz 2000001 r := by rw [← hr]; exact sz_rq zN
  have zR0 : sz 1000000 R0 := by rw [← hR0]; exact sz_re hsx
  have zS1 : sz 4000003 S1 := by rw [← hS1]; exact sz.mono (sz_add (sz.mono zR0 (by omega)) zr) (by omega)
  have zU0 : sz 8000007 U0 := by rw [← hU0]; exact sz.mono (sz_mul zS1 (sz.mono zH (by omega))) (by omega)
  have zu : sz 8000007 u := by rw [← hu]; exact sz_rq zU0
  have zD1 : sz 4000003 D1 := by rw [← hD1]; exact sz.mono (sz_sub zr (sz.mono zR0 (by omega))) (by omega)
  have zV0 : sz 8000007 V0 := by rw [← hV0]; exact sz.mono (sz_mul zD1 (sz.mono zH (by omega))) (by omega)
  have zv : sz 8000007 v := by rw [← hv]; exact sz_rq zV0
  obtain ⟨i, hi⟩ : ∃ i : Cx, i = ⟨0, 1⟩ := ⟨_, rfl⟩
  obtain ⟨z, hz⟩ : ∃ z : Int, z = 1 := ⟨_, rfl⟩
  rw [← hi] at LAW
  replace zH := Lib.hid zH
  replace zN := Lib.hid zN
  replace zr := Lib.hid zr
  replace zR0 := Lib.hid zR0
  replace zS1 := Lib.hid zS1
  replace zU0 := Lib.hid zU0
  replace zu := Lib.hid zu
  replace zD1 := Lib.hid zD1
  replace zV0 := Lib.hid zV0
  replace zv := Lib.hid zv
  replace LAW := Lib.hid LAW
  replace hN := Lib.hid hN
  replace hr := Lib.hid hr
  replace hb1 := Lib.hid hb1
  replace hH := Lib.hid hH
  replace hR0 := Lib.hid hR0
  replace hS1 := Lib.hid hS1
  replace hU0 := Lib.hid hU0
  replace hD1 := Lib.hid hD1
  replace hV0 := Lib.hid hV0
  replace hu := Lib.hid hu
  replace hb2 := Lib.hid hb2
  replace hv := Lib.hid hv
  replace hb3 := Lib.hid hb3
  replace hi := Lib.hid hi
  replace hz := Lib.hid hz
  have HW0 := Lib.hid (fun w => rwhole_any 0 w (by omega) (by omega))
  obtain ⟨O, hO⟩ : ∃ q : Cx, q = Cx.zero := ⟨_, rfl⟩
  rw [show Cx.ofInt 0 = O from hO.symm] at HW0
  rw [← hO] at LAW
  clear hsx h0 hO
  go_enter Tryz.func72, Tryz.ntmps72
  go_wp2_with fail
  obtain ⟨W, hW⟩ : ∃ W : World, W = ((w.alloc (.cells #[.bool (sn (na x)), .slice A1 (ln (ab (na x))) cA1, .bool (sn (nb x)), .slice A2 (ln (ab (nb x))) cA2, .slice A3 (ln (nd x)) cA3] 34)).alloc (.cells #[.bool false, .slice none 0 0, .bool false, .slice none 0 0, .slice none 0 0] 34)) := ⟨_, rfl⟩
  have s0_0 : W.cell? ⟨w.heap.size, 0, none⟩ = some (.bool (sn (na x))) := by subst hW; go_simp
  have s0_1 : W.cell? ⟨w.heap.size, 1, none⟩ = some (.slice A1 (ln (ab (na x))) cA1) := by subst hW; go_simp
  have s0_2 : W.cell? ⟨w.heap.size, 2, none⟩ = some (.bool (sn (nb x))) := by subst hW; go_simp
  have s0_3 : W.cell? ⟨w.heap.size, 3, none⟩ = some (.slice A2 (ln (ab (nb x))) cA2) := by subst hW; go_simp
  have s0_4 : W.cell? ⟨w.heap.size, 4, none⟩ = some (.slice A3 (ln (nd x)) cA3) := by subst hW; go_simp
  have r0 : W.cell? ⟨w.heap.size + 1, 0, none⟩ = some (.bool false) := by subst hW; go_simp
  have f0 : W.frozen? ⟨w.heap.size + 1, 0, none⟩ = false := by subst hW; go_simp
  have r1 : W.cell? ⟨w.heap.size + 1, 1, none⟩ = some (.slice none 0 0) := by subst hW; go_simp
  have f1 : W.frozen? ⟨w.heap.size + 1, 1, none⟩ = false := by subst hW; go_simp
  have r2 : W.cell? ⟨w.heap.size + 1, 2, none⟩ = some (.bool false) := by subst hW; go_simp
  have f2 : W.frozen? ⟨w.heap.size + 1, 2, none⟩ = false := by subst hW; go_simp
  have r3 : W.cell? ⟨w.heap.size + 1, 3, none⟩ = some (.slice none 0 0) := by subst hW; go_simp
  have f3 : W.frozen? ⟨w.heap.size + 1, 3, none⟩ = false := by subst hW; go_simp
  have r4 : W.cell? ⟨w.heap.size + 1, 4, none⟩ = some (.slice none 0 0) := by subst hW; go_simp
  have f4 : W.frozen? ⟨w.heap.size + 1, 4, none⟩ = false := by subst hW; go_simp
  have HW : Below w.heap.size w W := by subst hW; exact (((Below.refl w.heap.size w).alloc (Nat.le_refl _) _).alloc (by simp) _)
  have l0 : w.heap.size < W.heap.size := by subst hW; simp <;> omega
  have l1 : w.heap.size + 1 < W.heap.size := by subst hW; simp
  have n0 : w.heap.size ≠ w.heap.size + 1 := by omega
  replace hx := hx.to HW
  have rz : NewVarN 0 (w.heap.size + 1) W := ⟨Nat.zero_le _, l1, ⟨r0, r1, r2, r3, r4⟩, f0, f1, f2, f3, f4⟩
  clear r0 r1 r2 r3 r4 f0 f1 f2 f3 f4
  rw [← hW]
  clear hW
  replace HW := Lib.hid HW
  refine (rzero_any x A1 A2 A3 cA1 cA2 cA3 _ (by exact hx)).mono ?_
  rintro e w1 ⟨rfl, hb1⟩
  replace s0_0 := keepc hb1 s0_0 l0
  replace s0_1 := keepc hb1 s0_1 l0
  replace s0_2 := keepc hb1 s0_2 l0
  replace s0_3 := keepc hb1 s0_3 l0
  replace s0_4 := keepc hb1 s0_4 l0
  replace rz := rz.to hb1
  replace l0 := Nat.lt_of_lt_of_le l0 hb1.size
  replace l1 := Nat.lt_of_lt_of_le l1 hb1.size
  replace hx := hx.to hb1
  replace HW := Lib.hid (hstep HW hb1)
  clear hb1
  rw [t]
  go_wp2_with fail
  refine (rnorm_e x N hN.out A1 A2 A3 cA1 cA2 cA3 _ (by exact hx) (sz.mono HSX.out (by omega))).mono ?_
  rintro e w2 ⟨N1, N2, N3, cN1, cN2, cN3, rfl, hn, hb2⟩
  replace s0_0 := keepc hb2 s0_0 l0
  replace s0_1 := keepc hb2 s0_1 l0
  replace s0_2 := keepc hb2 s0_2 l0
  replace s0_3 := keepc hb2 s0_3 l0
  replace s0_4 := keepc hb2 s0_4 l0
  replace rz := rz.to hb2
  replace l0 := Nat.lt_of_lt_of_le l0 hb2.size
  replace l1 := Nat.lt_of_lt_of_le l1 hb2.size
  replace hx := hx.to hb2
  replace HW := Lib.hid (hstep HW hb2)
  clear hb2
  go_wp2_with fail
  refine (rroot_e N r b1 hb1.out hr.out N1 N2 N3 cN1 cN2 cN3 _ (by exact hn) (sz.mono zN.out (by omega))).mono ?_
  rintro e w3 ⟨R1, R2, R3, cR1, cR2, cR3, rfl, hrn, hb3⟩
  replace s0_0 := keepc hb3 s0_0 l0
  replace s0_1 := keepc hb3 s0_1 l0
  replace s0_2 := keepc hb3 s0_2 l0
  replace s0_3 := keepc hb3 s0_3 l0
  replace s0_4 := keepc hb3 s0_4 l0
  replace rz := rz.to hb3
  replace l0 := Nat.lt_of_lt_of_le l0 hb3.size
  replace l1 := Nat.lt_of_lt_of_le l1 hb3.size
  replace hx := hx.to hb3
  replace hn := hn.to hb3
  replace HW := Lib.hid (hstep HW hb3)
  clear hb3
  go_upto_region 4 with fail
  obtain ⟨w4, hX⟩ : ∃ X : World, X = w3.alloc (.cells #[.bool (sn (na r)), .slice R1 (ln (ab (na r))) cR1, .bool (sn (nb r)), .slice R2 (ln (ab (nb r))) cR2, .slice R3 (ln (nd r)) cR3] 34) := ⟨_, rfl⟩
  rw [← hX]
  have hb4 : Below w3.heap.size w3 w4 := by rw [hX]; exact (Below.refl _ _).alloc (Nat.le_refl _) _
  have t0_0 : w4.cell? ⟨w3.heap.size, 0, none⟩ = some (.bool (sn (na r))) := by subst hX; go_simp
  have t0_1 : w4.cell? ⟨w3.heap.size, 1, none⟩ = some (.slice R1 (ln (ab (na r))) cR1) := by subst hX; go_simp
  have t0_2 : w4.cell? ⟨w3.heap.size, 2, none⟩ = some (.bool (sn (nb r))) := by subst hX; go_simp
  have t0_3 : w4.cell? ⟨w3.heap.size, 3, none⟩ = some (.slice R2 (ln (ab (nb r))) cR2) := by subst hX; go_simp
  have t0_4 : w4.cell? ⟨w3.heap.size, 4, none⟩ = some (.slice R3 (ln (nd r)) cR3) := by subst hX; go_simp
  have l100 : w3.heap.size < w4.heap.size := by rw [hX]; simp
  have n100 : w3.heap.size ≠ w.heap.size + 1 := by omega
  have m100 : w.heap.size ≤ w3.heap.size := by omega
  replace s0_0 := keepc hb4 s0_0 l0
  replace s0_1 := keepc hb4 s0_1 l0
  replace s0_2 := keepc hb4 s0_2 l0
  replace s0_3 := keepc hb4 s0_3 l0
  replace s0_4 := keepc hb4 s0_4 l0
  replace rz := rz.to hb4
  replace l0 := Nat.lt_of_lt_of_le l0 hb4.size
  replace l1 := Nat.lt_of_lt_of_le l1 hb4.size
  replace hx := hx.to hb4
  replace hn := hn.to hb4
  replace hrn := hrn.to hb4
  replace HW := Lib.hid (hstep HW hb4)
  clear hb4
  clear hX
  obtain ⟨g0, hg0⟩ : ∃ g, g = w3.heap.size := ⟨_, rfl⟩
  rw [← hg0] at t0_0 t0_1 t0_2 t0_3 t0_4 l100 n100 m100
  rw [← hg0]
  clear hg0
  cases b1
  case false =>
    go_wp2_with fail
    refine (HW0.out _).mono ?_
    rintro e w5 ⟨O1, O2, O3, cO1, cO2, cO3, rfl, ho, hb5⟩
    replace s0_0 := keepc hb5 s0_0 l0
    replace s0_1 := keepc hb5 s0_1 l0
    replace s0_2 := keepc hb5 s0_2 l0
    replace s0_3 := keepc hb5 s0_3 l0
    replace s0_4 := keepc hb5 s0_4 l0
    replace t0_0 := keepc hb5 t0_0 l100
    replace t0_1 := keepc hb5 t0_1 l100
    replace t0_2 := keepc hb5 t0_2 l100
    replace t0_3 := keepc hb5 t0_3 l100
    replace t0_4 := keepc hb5 t0_4 l100
    replace rz := rz.to hb5
    replace l0 := Nat.lt_of_lt_of_le l0 hb5.size
    replace l1 := Nat.lt_of_lt_of_le l1 hb5.size
    replace l100 := Nat.lt_of_lt_of_le l100 hb5.size
    replace hx := hx.to hb5
    replace hn := hn.to hb5
    replace hrn := hrn.to hb5
    replace HW := Lib.hid (hstep HW hb5)
    clear hb5
    obtain ⟨_, _, ⟨r0, r1, r2, r3, r4⟩, f0, f1, f2, f3, f4⟩ := rz
    go_wp2_with fail
    exact bodyPost_ret (v := .tuple #[.agg #[.bool (sn (na O)), .slice O1 (ln (ab (na O))) cO1, .bool (sn (nb O)), .slice O2 (ln (ab (nb O))) cO2, .slice O3 (ln (nd O)) cO3], .bool false]) (by simp [results, Tryz.results72, go_sem, r0, r1, r2, r3, r4, f0, f1, f2, f3, f4]) rfl ⟨false, O, LAW.out.1 (by simp), retNumCB_fin HW ho (by omega) r0⟩
  case true =>
  go_wp2_with fail
  refine (rint_1 z hz.out _).mono ?_
  rintro e w5 ⟨T, cT, rfl, ht, hb5⟩
  replace s0_0 := keepc hb5 s0_0 l0
  replace s0_1 := keepc hb5 s0_1 l0
  replace s0_2 := keepc hb5 s0_2 l0
  replace s0_3 := keepc hb5 s0_3 l0
  replace s0_4 := keepc hb5 s0_4 l0
  replace t0_0 := keepc hb5 t0_0 l100
  replace t0_1 := keepc hb5 t0_1 l100
  replace t0_2 := keepc hb5 t0_2 l100
  replace t0_3 := keepc hb5 t0_3 l100
  replace t0_4 := keepc hb5 t0_4 l100
  replace rz := rz.to hb5
  replace l0 := Nat.lt_of_lt_of_le l0 hb5.size
  replace l1 := Nat.lt_of_lt_of_le l1 hb5.size
  replace l100 := Nat.lt_of_lt_of_le l100 hb5.size
  replace hx := hx.to hb5
  replace hn := hn.to hb5
  replace hrn := hrn.to hb5
  replace HW := Lib.hid (hstep HW hb5)
  clear hb5
  go_wp2_with fail
  refine (rmake_half z H hz.out hH.out T _ cT _ (by exact ht.alloc _) (by exact nat2w_new _ _)).mono ?_
  rintro e w6 ⟨H1, H2, H3, cH1, cH2, cH3, rfl, hhn, hb6⟩
  replace hb6 := unalloc hb6
  replace s0_0 := keepc hb6 s0_0 l0
  replace s0_1 := keepc hb6 s0_1 l0
  replace s0_2 := keepc hb6 s0_2 l0
  replace s0_3 := keepc hb6 s0_3 l0
  replace s0_4 := keepc hb6 s0_4 l0
  replace t0_0 := keepc hb6 t0_0 l100
  replace t0_1 := keepc hb6 t0_1 l100
  replace t0_2 := keepc hb6 t0_2 l100
  replace t0_3 := keepc hb6 t0_3 l100
  replace t0_4 := keepc hb6 t0_4 l100
  replace rz := rz.to hb6
  replace l0 := Nat.lt_of_lt_of_le l0 hb6.size
  replace l1 := Nat.lt_of_lt_of_le l1 hb6.size
  replace l100 := Nat.lt_of_lt_of_le l100 hb6.size
  replace hx := hx.to hb6
  replace hn := hn.to hb6
  replace hrn := hrn.to hb6
  replace ht := ht.to hb6
  replace HW := Lib.hid (hstep HW hb6)
  clear hb6
  go_upto_region 7 with fail
  obtain ⟨w7, hX⟩ : ∃ X : World, X = w6.alloc (.cells #[.bool (sn (na H)), .slice H1 (ln (ab (na H))) cH1, .bool (sn (nb H)), .slice H2 (ln (ab (nb H))) cH2, .slice H3 (ln (nd H)) cH3] 34) := ⟨_, rfl⟩
  rw [← hX]
  have hb7 : Below w6.heap.size w6 w7 := by rw [hX]; exact (Below.refl _ _).alloc (Nat.le_refl _) _
  have t1_0 : w7.cell? ⟨w6.heap.size, 0, none⟩ = some (.bool (sn (na H))) := by subst hX; go_simp
  have t1_1 : w7.cell? ⟨w6.heap.size, 1, none⟩ = some (.slice H1 (ln (ab (na H))) cH1) := by subst hX; go_simp
  have t1_2 : w7.cell? ⟨w6.heap.size, 2, none⟩ = some (.bool (sn (nb H))) := by subst hX; go_simp
  have t1_3 : w7.cell? ⟨w6.heap.size, 3, none⟩ = some (.slice H2 (ln (ab (nb H))) cH2) := by subst hX; go_simp
  have t1_4 : w7.cell? ⟨w6.heap.size, 4, none⟩ = some (.slice H3 (ln (nd H)) cH3) := by subst hX; go_simp
  have l101 : w6.heap.size < w7.heap.size := by rw [hX]; simp
  have n101 : w6.heap.size ≠ w.heap.size + 1 := by omega
  have m101 : w.heap.size ≤ w6.heap.size := by omega
  replace s0_0 := keepc hb7 s0_0 l0
  replace s0_1 := keepc hb7 s0_1 l0
  replace s0_2 := keepc hb7 s0_2 l0
  replace s0_3 := keepc hb7 s0_3 l0
  replace s0_4 := keepc hb7 s0_4 l0
  replace t0_0 := keepc hb7 t0_0 l100
  replace t0_1 := keepc hb7 t0_1 l100
  replace t0_2 := keepc hb7 t0_2 l100
  replace t0_3 := keepc hb7 t0_3 l100
  replace t0_4 := keepc hb7 t0_4 l100
  replace rz := rz.to hb7
  replace l0 := Nat.lt_of_lt_of_le l0 hb7.size
  replace l1 := Nat.lt_of_lt_of_le l1 hb7.size
  replace l100 := Nat.lt_of_lt_of_le l100 hb7.size
  replace hx := hx.to hb7
  replace hn := hn.to hb7
  replace hrn := hrn.to hb7
  replace ht := ht.to hb7
  replace hhn := hhn.to hb7
  replace HW := Lib.hid (hstep HW hb7)
  clear hb7
  clear hX
  obtain ⟨g1, hg1⟩ : ∃ g, g = w6.heap.size := ⟨_, rfl⟩
  rw [← hg1] at t1_0 t1_1 t1_2 t1_3 t1_4 l101 n101 m101
  rw [← hg1]
  clear hg1
  go_upto_region 7 with fail
  go_cut [7, 5] (fun p ev wx => VarNumC w7 (u) p wx ∧ ev = .bool b2 ∧ FrozN wx p)
  case first =>
    have gB : Hid (Below w7.heap.size w7 w7) := Lib.hid (Below.refl _ _)
    go_region_held3 (fun w' => w'.cell? ⟨w.heap.size, 0, none⟩ = some (.bool (sn (na x))) ∧ w'.cell? ⟨w.heap.size, 1, none⟩ = some (.slice A1 (ln (ab (na x))) cA1) ∧ w'.cell? ⟨w.heap.size, 2, none⟩ = some (.bool (sn (nb x))) ∧ w'.cell? ⟨w.heap.size, 3, none⟩ = some (.slice A2 (ln (ab (nb x))) cA2) ∧ w'.cell? ⟨w.heap.size, 4, none⟩ = some (.slice A3 (ln (nd x)) cA3) ∧ w'.cell? ⟨g0, 0, none⟩ = some (.bool (sn (na r))) ∧ w'.cell? ⟨g0, 1, none⟩ = some (.slice R1 (ln (ab (na r))) cR1) ∧ w'.cell? ⟨g0, 2, none⟩ = some (.bool (sn (nb r))) ∧ w'.cell? ⟨g0, 3, none⟩ = some (.slice R2 (ln (ab (nb r))) cR2) ∧ w'.cell? ⟨g0, 4, none⟩ = some (.slice R3 (ln (nd r)) cR3) ∧ w'.cell? ⟨g1, 0, none⟩ = some (.bool (sn (na H))) ∧ w'.cell? ⟨g1, 1, none⟩ = some (.slice H1 (ln (ab (na H))) cH1) ∧ w'.cell? ⟨g1, 2, none⟩ = some (.bool (sn (nb H))) ∧ w'.cell? ⟨g1, 3, none⟩ = some (.slice H2 (ln (ab (nb H))) cH2) ∧ w'.cell? ⟨g1, 4, none⟩ = some (.slice H3 (ln (nd H)) cH3)) (first | with_reducible exact ⟨s0_0, s0_1, s0_2, s0_3, s0_4, t0_0, t0_1, t0_2, t0_3, t0_4, t1_0, t1_1, t1_2, t1_3, t1_4⟩ | with_reducible exact ⟨(keepa s0_0 l0), (keepa s0_1 l0), (keepa s0_2 l0), (keepa s0_3 l0), (keepa s0_4 l0), (keepa t0_0 l100), (keepa t0_1 l100), (keepa t0_2 l100), (keepa t0_3 l100), (keepa t0_4 l100), (keepa t1_0 l101), (keepa t1_1 l101), (keepa t1_2 l101), (keepa t1_3 l101), (keepa t1_4 l101)⟩ | with_reducible exact ⟨(keepa (keepa s0_0 l0) (lta l0)), (keepa (keepa s0_1 l0) (lta l0)), (keepa (keepa s0_2 l0) (lta l0)), (keepa (keepa s0_3 l0) (lta l0)), (keepa (keepa s0_4 l0) (lta l0)), (keepa (keepa t0_0 l100) (lta l100)), (keepa (keepa t0_1 l100) (lta l100)), (keepa (keepa t0_2 l100) (lta l100)), (keepa (keepa t0_3 l100) (lta l100)), (keepa (keepa t0_4 l100) (lta l100)), (keepa (keepa t1_0 l101) (lta l101)), (keepa (keepa t1_1 l101) (lta l101)), (keepa (keepa t1_2 l101) (lta l101)), (keepa (keepa t1_3 l101) (lta l101)), (keepa (keepa t1_4 l101) (lta l101))⟩ | with_reducible exact ⟨(keepd s0_0), (keepd s0_1), (keepd s0_2), (keepd s0_3), (keepd s0_4), (keepd t0_0), (keepd t0_1), (keepd t0_2), (keepd t0_3), (keepd t0_4), (keepd t1_0), (keepd t1_1), (keepd t1_2), (keepd t1_3), (keepd t1_4)⟩ | with_reducible exact ⟨(keepd (keepa s0_0 l0)), (keepd (keepa s0_1 l0)), (keepd (keepa s0_2 l0)), (keepd (keepa s0_3 l0)), (keepd (keepa s0_4 l0)), (keepd (keepa t0_0 l100)), (keepd (keepa t0_1 l100)), (keepd (keepa t0_2 l100)), (keepd (keepa t0_3 l100)), (keepd (keepa t0_4 l100)), (keepd (keepa t1_0 l101)), (keepd (keepa t1_1 l101)), (keepd (keepa t1_2 l101)), (keepd (keepa t1_3 l101)), (keepd (keepa t1_4 l101))⟩ | with_reducible exact ⟨(keepd (keepa (keepa s0_0 l0) (lta l0))), (keepd (keepa (keepa s0_1 l0) (lta l0))), (keepd (keepa (keepa s0_2 l0) (lta l0))), (keepd (keepa (keepa s0_3 l0) (lta l0))), (keepd (keepa (keepa s0_4 l0) (lta l0))), (keepd (keepa (keepa t0_0 l100) (lta l100))), (keepd (keepa (keepa t0_1 l100) (lta l100))), (keepd (keepa (keepa t0_2 l100) (lta l100))), (keepd (keepa (keepa t0_3 l100) (lta l100))), (keepd (keepa (keepa t0_4 l100) (lta l100))), (keepd (keepa (keepa t1_0 l101) (lta l101))), (keepd (keepa (keepa t1_1 l101) (lta l101))), (keepd (keepa (keepa t1_2 l101) (lta l101))), (keepd (keepa (keepa t1_3 l101) (lta l101))), (keepd (keepa (keepa t1_4 l101) (lta l101)))⟩ | (have _ := gx; with_reducible exact ⟨(keeps (keeps (keeps (keeps (keeps s0_0 gn0) gn0) gn0) gn0) gn0), (keeps (keeps (keeps (keeps (keeps s0_1 gn0) gn0) gn0) gn0) gn0), (keeps (keeps (keeps (keeps (keeps s0_2 gn0) gn0) gn0) gn0) gn0), (keeps (keeps (keeps (keeps (keeps s0_3 gn0) gn0) gn0) gn0) gn0), (keeps (keeps (keeps (keeps (keeps s0_4 gn0) gn0) gn0) gn0) gn0), (keeps (keeps (keeps (keeps (keeps t0_0 gn100) gn100) gn100) gn100) gn100), (keeps (keeps (keeps (keeps (keeps t0_1 gn100) gn100) gn100) gn100) gn100), (keeps (keeps (keeps (keeps (keeps t0_2 gn100) gn100) gn100) gn100) gn100), (keeps (keeps (keeps (keeps (keeps t0_3 gn100) gn100) gn100) gn100) gn100), (keeps (keeps (keeps (keeps (keeps t0_4 gn100) gn100) gn100) gn100) gn100), (keeps (keeps (keeps (keeps (keeps t1_0 gn101) gn101) gn101) gn101) gn101), (keeps (keeps (keeps (keeps (keeps t1_1 gn101) gn101) gn101) gn101) gn101), (keeps (keeps (keeps (keeps (keeps t1_2 gn101) gn101) gn101) gn101) gn101), (keeps (keeps (keeps (keeps (keeps t1_3 gn101) gn101) gn101) gn101) gn101), (keeps (keeps (keeps (keeps (keeps t1_4 gn101) gn101) gn101) gn101) gn101)⟩)) (first
      | (go_at_call 42; refine (rre_e x R0 hR0.out A1 A2 A3 cA1 cA2 cA3 _ (by first | with_reducible exact hx | with_reducible exact num3C_alloc hx | exact hx | exact num3C_alloc hx) (sz.mono HSX.out (by omega))).mono ?_; rintro e w8 ⟨P1, P2, P3, cP1, cP2, cP3, rfl, pm, ha⟩; have hb8 : Below w7.heap.size w7 w8 := (by first | with_reducible exact ha | with_reducible exact undrew ha | with_reducible exact unalloc ha | with_reducible exact undrewalloc ha | with_reducible exact undrew (unalloc ha)); (try replace gx := gx.to hb8); (try ((first | (with_reducible have gx := newvarN ha) | (with_reducible have gx := newvarN (undrew ha)) | (with_reducible have gx := newvarN (unalloc ha)) | (with_reducible have gx := newvarN (undrewalloc ha))); have gn0 := Nat.ne_of_lt (Nat.lt_of_lt_of_le l0 gx.1); have gn1 := Nat.ne_of_lt (Nat.lt_of_lt_of_le l1 gx.1); have gn100 := Nat.ne_of_lt (Nat.lt_of_lt_of_le l100 gx.1); have gn101 := Nat.ne_of_lt (Nat.lt_of_lt_of_le l101 gx.1); have gge := Nat.le_trans gB.out.size gx.1)); replace gB := Lib.hid (onto gB.out hb8); replace s0_0 := keepc hb8 s0_0 l0; replace s0_1 := keepc hb8 s0_1 l0; replace s0_2 := keepc hb8 s0_2 l0; replace s0_3 := keepc hb8 s0_3 l0; replace s0_4 := keepc hb8 s0_4 l0; replace t0_0 := keepc hb8 t0_0 l100; replace t0_1 := keepc hb8 t0_1 l100; replace t0_2 := keepc hb8 t0_2 l100; replace t0_3 := keepc hb8 t0_3 l100; replace t0_4 := keepc hb8 t0_4 l100; replace t1_0 := keepc hb8 t1_0 l101; replace t1_1 := keepc hb8 t1_1 l101; replace t1_2 := keepc hb8 t1_2 l101; replace t1_3 := keepc hb8 t1_3 l101; replace t1_4 := keepc hb8 t1_4 l101; replace rz := rz.to hb8; replace l0 := Nat.lt_of_lt_of_le l0 hb8.size; replace l1 := Nat.lt_of_lt_of_le l1 hb8.size; replace l100 := Nat.lt_of_lt_of_le l100 hb8.size; replace l101 := Nat.lt_of_lt_of_le l101 hb8.size; replace hx := hx.to hb8; replace hn := hn.to hb8; replace hrn := hrn.to hb8; replace ht := ht.to hb8; replace hhn := hhn.to hb8; replace HW := Lib.hid (hstep HW hb8); clear hb8; clear ha)
      | (go_at_call 27; refine (radd_e S1 R0 r hS1.out P1 P2 P3 R1 R2 R3 cP1 cP2 cP3 cR1 cR2 cR3 _ (by first | with_reducible exact pm | with_reducible exact num3C_alloc pm | exact pm | exact num3C_alloc pm) (by first | with_reducible exact hrn | with_reducible exact num3C_alloc hrn | exact hrn | exact num3C_alloc hrn) (sz.mono zR0.out (by omega)) (sz.mono zr.out (by omega))).mono ?_; rintro e w9 ⟨Q1, Q2, Q3, cQ1, cQ2, cQ3, rfl, qm, ha⟩; have hb9 : Below w8.heap.size w8 w9 := (by first | with_reducible exact ha | with_reducible exact undrew ha | with_reducible exact unalloc ha | with_reducible exact undrewalloc ha | with_reducible exact undrew (unalloc ha)); (try replace gx := gx.to hb9); (try ((first | (with_reducible have gx := newvarN ha) | (with_reducible have gx := newvarN (undrew ha)) | (with_reducible have gx := newvarN (unalloc ha)) | (with_reducible have gx := newvarN (undrewalloc ha))); have gn0 := Nat.ne_of_lt (Nat.lt_of_lt_of_le l0 gx.1); have gn1 := Nat.ne_of_lt (Nat.lt_of_lt_of_le l1 gx.1); have gn100 := Nat.ne_of_lt (Nat.lt_of_lt_of_le l100 gx.1); have gn101 := Nat.ne_of_lt (Nat.lt_of_lt_of_le l101 gx.1); have gge := Nat.le_trans gB.out.size gx.1)); replace gB := Lib.hid (onto gB.out hb9); replace s0_0 := keepc hb9 s0_0 l0; replace s0_1 := keepc hb9 s0_1 l0; replace s0_2 := keepc hb9 s0_2 l0; replace s0_3 := keepc hb9 s0_3 l0; replace s0_4 := keepc hb9 s0_4 l0; replace t0_0 := keepc hb9 t0_0 l100; replace t0_1 := keepc hb9 t0_1 l100; replace t0_2 := keepc hb9 t0_2 l100; replace t0_3 := keepc hb9 t0_3 l100; replace t0_4 := keepc hb9 t0_4 l100; replace t1_0 := keepc hb9 t1_0 l101; replace t1_1 := keepc hb9 t1_1 l101; replace t1_2 := keepc hb9 t1_2 l101; replace t1_3 := keepc hb9 t1_3 l101; replace t1_4 := keepc hb9 t1_4 l101; replace rz := rz.to hb9; replace l0 := Nat.lt_of_lt_of_le l0 hb9.size; replace l1 := Nat.lt_of_lt_of_le l1 hb9.size; replace l100 := Nat.lt_of_lt_of_le l100 hb9.size; replace l101 := Nat.lt_of_lt_of_le l101 hb9.size; replace hx := hx.to hb9; replace hn := hn.to hb9; replace hrn := hrn.to hb9; replace ht := ht.to hb9; replace hhn := hhn.to hb9; replace pm := pm.to hb9; replace HW := Lib.hid (hstep HW hb9); clear hb9; clear ha)
      | (go_at_call 31; refine (rmul_e U0 S1 H hU0.out Q1 Q2 Q3 H1 H2 H3 cQ1 cQ2 cQ3 cH1 cH2 cH3 _ (by first | with_reducible exact qm | with_reducible exact num3C_alloc qm | exact qm | exact num3C_alloc qm) (by first | with_reducible exact hhn | with_reducible exact num3C_alloc hhn | exact hhn | exact num3C_alloc hhn) (sz.mono zS1.out (by omega)) (sz.mono zH.out (by omega))).mono ?_; rintro e w10 ⟨M1, M2, M3, cM1, cM2, cM3, rfl, mm, ha⟩; have hb10 : Below w9.heap.size w9 w10 := (by first | with_reducible exact ha | with_reducible exact undrew ha | with_reducible exact unalloc ha | with_reducible exact undrewalloc ha | with_reducible exact undrew (unalloc ha)); (try replace gx := gx.to hb10); (try ((first | (with_reducible have gx := newvarN ha) | (with_reducible have gx := newvarN (undrew ha)) | (with_reducible have gx := newvarN (unalloc ha)) | (with_reducible have gx := newvarN (undrewalloc ha))); have gn0 := Nat.ne_of_lt (Nat.lt_of_lt_of_le l0 gx.1); have gn1 := Nat.ne_of_lt (Nat.lt_of_lt_of_le l1 gx.1); have gn100 := Nat.ne_of_lt (Nat.lt_of_lt_of_le l100 gx.1); have gn101 := Nat.ne_of_lt (Nat.lt_of_lt_of_le l101 gx.1); have gge := Nat.le_trans gB.out.size gx.1)); replace gB := Lib.hid (onto gB.out hb10); replace s0_0 := keepc hb10 s0_0 l0; replace s0_1 := keepc hb10 s0_1 l0; replace s0_2 := keepc hb10 s0_2 l0; replace s0_3 := keepc hb10 s0_3 l0; replace s0_4 := keepc hb10 s0_4 l0; replace t0_0 := keepc hb10 t0_0 l100; replace t0_1 := keepc hb10 t0_1 l100; replace t0_2 := keepc hb10 t0_2 l100; replace t0_3 := keepc hb10 t0_3 l100; replace t0_4 := keepc hb10 t0_4 l100; replace t1_0 := keepc hb10 t1_0 l101; replace t1_1 := keepc hb10 t1_1 l101; replace t1_2 := keepc hb10 t1_2 l101; replace t1_3 := keepc hb10 t1_3 l101; replace t1_4 := keepc hb10 t1_4 l101; replace rz := rz.to hb10; replace l0 := Nat.lt_of_lt_of_le l0 hb10.size; replace l1 := Nat.lt_of_lt_of_le l1 hb10.size; replace l100 := Nat.lt_of_lt_of_le l100 hb10.size; replace l101 := Nat.lt_of_lt_of_le l101 hb10.size; replace hx := hx.to hb10; replace hn := hn.to hb10; replace hrn := hrn.to hb10; replace ht := ht.to hb10; replace hhn := hhn.to hb10; replace pm := pm.to hb10; replace qm := qm.to hb10; replace HW := Lib.hid (hstep HW hb10); clear hb10; clear ha)
      | (go_at_call 134; refine (rroot_e U0 u b2 hb2.out hu.out M1 M2 M3 cM1 cM2 cM3 _ (by first | with_reducible exact mm | with_reducible exact num3C_alloc mm | exact mm | exact num3C_alloc mm) (sz.mono zU0.out (by omega))).mono ?_; rintro e w11 ⟨Z1, Z2, Z3, cZ1, cZ2, cZ3, rfl, z11, ha⟩; have hb11 : Below w10.heap.size w10 w11 := (by first | with_reducible exact ha | with_reducible exact undrew ha | with_reducible exact unalloc ha | with_reducible exact undrewalloc ha | with_reducible exact undrew (unalloc ha)); (try replace gx := gx.to hb11); (try ((first | (with_reducible have gx := newvarN ha) | (with_reducible have gx := newvarN (undrew ha)) | (with_reducible have gx := newvarN (unalloc ha)) | (with_reducible have gx := newvarN (undrewalloc ha))); have gn0 := Nat.ne_of_lt (Nat.lt_of_lt_of_le l0 gx.1); have gn1 := Nat.ne_of_lt (Nat.lt_of_lt_of_le l1 gx.1); have gn100 := Nat.ne_of_lt (Nat.lt_of_lt_of_le l100 gx.1); have gn101 := Nat.ne_of_lt (Nat.lt_of_lt_of_le l101 gx.1); have gge := Nat.le_trans gB.out.size gx.1)); replace gB := Lib.hid (onto gB.out hb11); replace s0_0 := keepc hb11 s0_0 l0; replace s0_1 := keepc hb11 s0_1 l0; replace s0_2 := keepc hb11 s0_2 l0; replace s0_3 := keepc hb11 s0_3 l0; replace s0_4 := keepc hb11 s0_4 l0; replace t0_0 := keepc hb11 t0_0 l100; replace t0_1 := keepc hb11 t0_1 l100; replace t0_2 := keepc hb11 t0_2 l100; replace t0_3 := keepc hb11 t0_3 l100; replace t0_4 := keepc hb11 t0_4 l100; replace t1_0 := keepc hb11 t1_0 l101; replace t1_1 := keepc hb11 t1_1 l101; replace t1_2 := keepc hb11 t1_2 l101; replace t1_3 := keepc hb11 t1_3 l101; replace t1_4 := keepc hb11 t1_4 l101; replace rz := rz.to hb11; replace l0 := Nat.lt_of_lt_of_le l0 hb11.size; replace l1 := Nat.lt_of_lt_of_le l1 hb11.size; replace l100 := Nat.lt_of_lt_of_le l100 hb11.size; replace l101 := Nat.lt_of_lt_of_le l101 hb11.size; replace hx := hx.to hb11; replace hn := hn.to hb11; replace hrn := hrn.to hb11; replace ht := ht.to hb11; replace hhn := hhn.to hb11; replace pm := pm.to hb11; replace qm := qm.to hb11; replace mm := mm.to hb11; replace HW := Lib.hid (hstep HW hb11); clear hb11; clear ha; (try (have gy := gx; obtain ⟨_, gl, ⟨gc0, gc1, gc2, gc3, gc4⟩, gf0, gf1, gf2, gf3, gf4⟩ := gy))))
    all_goals
      go_wp2_with fail
      go_meet
      first | with_reducible exact ⟨varNumC_set gB.out gx gge z11, rfl, frozN_set gx⟩ | with_reducible exact ⟨varNumC_new gB.out z11, rfl, frozN_new _ _ _⟩
  case rest =>
  obtain ⟨⟨g2, V21, V22, V23, cV21, cV22, cV23, hp2, ⟨t2_0, t2_1, t2_2, t2_3, t2_4⟩, hv2, hg2, l102, hb8⟩, hev, hfz2⟩ := hcut
  obtain ⟨hv21, hv22, hv23⟩ := hv2
  subst hp2 hev
  replace hfz2 := hfz2 _ rfl
  have z2_0 := hfz2 0 (by omega)
  have z2_1 := hfz2 1 (by omega)
  have z2_2 := hfz2 2 (by omega)
  have z2_3 := hfz2 3 (by omega)
  have z2_4 := hfz2 4 (by omega)
  clear hfz2
  have n102 : g2 ≠ w.heap.size + 1 := by omega
  have m102 : w.heap.size ≤ g2 := by omega
  have d2_0 : g0 ≠ g2 := by omega
  have d2_1 : g1 ≠ g2 := by omega
  obtain ⟨w8, rfl⟩ : ∃ X : World, X = wc := ⟨_, rfl⟩
  replace s0_0 := keepc hb8 s0_0 l0
  replace s0_1 := keepc hb8 s0_1 l0
  replace s0_2 := keepc hb8 s0_2 l0
  replace s0_3 := keepc hb8 s0_3 l0
  replace s0_4 := keepc hb8 s0_4 l0
  replace t0_0 := keepc hb8 t0_0 l100
  replace t0_1 := keepc hb8 t0_1 l100
  replace t0_2 := keepc hb8 t0_2 l100
  replace t0_3 := keepc hb8 t0_3 l100
  replace t0_4 := keepc hb8 t0_4 l100
  replace t1_0 := keepc hb8 t1_0 l101
  replace t1_1 := keepc hb8 t1_1 l101
  replace t1_2 := keepc hb8 t1_2 l101
  replace t1_3 := keepc hb8 t1_3 l101
  replace t1_4 := keepc hb8 t1_4 l101
  replace rz := rz.to hb8
  replace l0 := Nat.lt_of_lt_of_le l0 hb8.size
  replace l1 := Nat.lt_of_lt_of_le l1 hb8.size
  replace l100 := Nat.lt_of_lt_of_le l100 hb8.size
  replace l101 := Nat.lt_of_lt_of_le l101 hb8.size
  replace hx := hx.to hb8
  replace hn := hn.to hb8
  replace hrn := hrn.to hb8
  replace ht := ht.to hb8
  replace hhn := hhn.to hb8
  replace HW := Lib.hid (hstep HW hb8)
  clear hb8
  cases b2
  case false =>
    go_wp2_with fail
    refine (HW0.out _).mono ?_
    rintro e w9 ⟨O1, O2, O3, cO1, cO2, cO3, rfl, ho, hb9⟩
    replace s0_0 := keepc hb9 s0_0 l0
    replace s0_1 := keepc hb9 s0_1 l0
    replace s0_2 := keepc hb9 s0_2 l0
    replace s0_3 := keepc hb9 s0_3 l0
    replace s0_4 := keepc hb9 s0_4 l0
    replace t0_0 := keepc hb9 t0_0 l100
    replace t0_1 := keepc hb9 t0_1 l100
    replace t0_2 := keepc hb9 t0_2 l100
    replace t0_3 := keepc hb9 t0_3 l100
    replace t0_4 := keepc hb9 t0_4 l100
    replace t1_0 := keepc hb9 t1_0 l101
    replace t1_1 := keepc hb9 t1_1 l101
    replace t1_2 := keepc hb9 t1_2 l101
    replace t1_3 := keepc hb9 t1_3 l101
    replace t1_4 := keepc hb9 t1_4 l101
    replace t2_0 := keepc hb9 t2_0 l102
    replace t2_1 := keepc hb9 t2_1 l102
    replace t2_2 := keepc hb9 t2_2 l102
    replace t2_3 := keepc hb9 t2_3 l102
    replace t2_4 := keepc hb9 t2_4 l102
    replace rz := rz.to hb9
    replace l0 := Nat.lt_of_lt_of_le l0 hb9.size
    replace l1 := Nat.lt_of_lt_of_le l1 hb9.size
    replace l100 := Nat.lt_of_lt_of_le l100 hb9.size
    replace l101 := Nat.lt_of_lt_of_le l101 hb9.size
    replace l102 := Nat.lt_of_lt_of_le l102 hb9.size
    replace hx := hx.to hb9
    replace hn := hn.to hb9
    replace hrn := hrn.to hb9
    replace ht := ht.to hb9
    replace hhn := hhn.to hb9
    replace hv21 := hv21.to hb9
    replace hv22 := hv22.to hb9
    replace hv23 := hv23.to hb9
    replace HW := Lib.hid (hstep HW hb9)
    clear hb9
    obtain ⟨_, _, ⟨r0, r1, r2, r3, r4⟩, f0, f1, f2, f3, f4⟩ := rz
    go_wp2_with fail
    exact bodyPost_ret (v := .tuple #[.agg #[.bool (sn (na O)), .slice O1 (ln (ab (na O))) cO1, .bool (sn (nb O)), .slice O2 (ln (ab (nb O))) cO2, .slice O3 (ln (nd O)) cO3], .bool false]) (by simp [results, Tryz.results72, go_sem, r0, r1, r2, r3, r4, f0, f1, f2, f3, f4]) rfl ⟨false, O, LAW.out.2.1 (by simp) (by simp), retNumCB_fin HW ho (by omega) r0⟩
  case true =>
  clear z2_0 z2_1 z2_2 z2_3 z2_4
  go_upto_region 10 with fail
  go_cut [8, 5] (fun p ev wx => VarNumC w8 (v) p wx ∧ ev = .bool b3 ∧ FrozN wx p)
  case first =>
    have gB : Hid (Below w8.heap.size w8 w8) := Lib.hid (Below.refl _ _)
    go_region_held3 (fun w' => w'.cell? ⟨w.heap.size, 0, none⟩ = some (.bool (sn (na x))) ∧ w'.cell? ⟨w.heap.size, 1, none⟩ = some (.slice A1 (ln (ab (na x))) cA1) ∧ w'.cell? ⟨w.heap.size, 2, none⟩ = some (.bool (sn (nb x))) ∧ w'.cell? ⟨w.heap.size, 3, none⟩ = some (.slice A2 (ln (ab (nb x))) cA2) ∧ w'.cell? ⟨w.heap.size, 4, none⟩ = some (.slice A3 (ln (nd x)) cA3) ∧ w'.cell? ⟨g0, 0, none⟩ = some (.bool (sn (na r))) ∧ w'.cell? ⟨g0, 1, none⟩ = some (.slice R1 (ln (ab (na r))) cR1) ∧ w'.cell? ⟨g0, 2, none⟩ = some (.bool (sn (nb r))) ∧ w'.cell? ⟨g0, 3, none⟩ = some (.slice R2 (ln (ab (nb r))) cR2) ∧ w'.cell? ⟨g0, 4, none⟩ = some (.slice R3 (ln (nd r)) cR3) ∧ w'.cell? ⟨g1, 0, none⟩ = some (.bool (sn (na H))) ∧ w'.cell? ⟨g1, 1, none⟩ = some (.slice H1 (ln (ab (na H))) cH1) ∧ w'.cell? ⟨g1, 2, none⟩ = some (.bool (sn (nb H))) ∧ w'.cell? ⟨g1, 3, none⟩ = some (.slice H2 (ln (ab (nb H))) cH2) ∧ w'.cell? ⟨g1, 4, none⟩ = some (.slice H3 (ln (nd H)) cH3)) (first | with_reducible exact ⟨s0_0, s0_1, s0_2, s0_3, s0_4, t0_0, t0_1, t0_2, t0_3, t0_4, t1_0, t1_1, t1_2, t1_3, t1_4⟩ | with_reducible exact ⟨(keepa s0_0 l0), (keepa s0_1 l0), (keepa s0_2 l0), (keepa s0_3 l0), (keepa s0_4 l0), (keepa t0_0 l100), (keepa t0_1 l100), (keepa t0_2 l100), (keepa t0_3 l100), (keepa t0_4 l100), (keepa t1_0 l101), (keepa t1_1 l101), (keepa t1_2 l101), (keepa t1_3 l101), (keepa t1_4 l101)⟩ | with_reducible exact ⟨(keepa (keepa s0_0 l0) (lta l0)), (keepa (keepa s0_1 l0) (lta l0)), (keepa (keepa s0_2 l0) (lta l0)), (keepa (keepa s0_3 l0) (lta l0)), (keepa (keepa s0_4 l0) (lta l0)), (keepa (keepa t0_0 l100) (lta l100)), (keepa (keepa t0_1 l100) (lta l100)), (keepa (keepa t0_2 l100) (lta l100)), (keepa (keepa t0_3 l100) (lta l100)), (keepa (keepa t0_4 l100) (lta l100)), (keepa (keepa t1_0 l101) (lta l101)), (keepa (keepa t1_1 l101) (lta l101)), (keepa (keepa t1_2 l101) (lta l101)), (keepa (keepa t1_3 l101) (lta l101)), (keepa (keepa t1_4 l101) (lta l101))⟩ | with_reducible exact ⟨(keepd s0_0), (keepd s0_1), (keepd s0_2), (keepd s0_3), (keepd s0_4), (keepd t0_0), (keepd t0_1), (keepd t0_2), (keepd t0_3), (keepd t0_4), (keepd t1_0), (keepd t1_1), (keepd t1_2), (keepd t1_3), (keepd t1_4)⟩ | with_reducible exact ⟨(keepd (keepa s0_0 l0)), (keepd (keepa s0_1 l0)), (keepd (keepa s0_2 l0)), (keepd (keepa s0_3 l0)), (keepd (keepa s0_4 l0)), (keepd (keepa t0_0 l100)), (keepd (keepa t0_1 l100)), (keepd (keepa t0_2 l100)), (keepd (keepa t0_3 l100)), (keepd (keepa t0_4 l100)), (keepd (keepa t1_0 l101)), (keepd (keepa t1_1 l101)), (keepd (keepa t1_2 l101)), (keepd (keepa t1_3 l101)), (keepd (keepa t1_4 l101))⟩ | with_reducible exact ⟨(keepd (keepa (keepa s0_0 l0) (lta l0))), (keepd (keepa (keepa s0_1 l0) (lta l0))), (keepd (keepa (keepa s0_2 l0) (lta l0))), (keepd (keepa (keepa s0_3 l0) (lta l0))), (keepd (keepa (keepa s0_4 l0) (lta l0))), (keepd (keepa (keepa t0_0 l100) (lta l100))), (keepd (keepa (keepa t0_1 l100) (lta l100))), (keepd (keepa (keepa t0_2 l100) (lta l100))), (keepd (keepa (keepa t0_3 l100) (lta l100))), (keepd (keepa (keepa t0_4 l100) (lta l100))), (keepd (keepa (keepa t1_0 l101) (lta l101))), (keepd (keepa (keepa t1_1 l101) (lta l101))), (keepd (keepa (keepa t1_2 l101) (lta l101))), (keepd (keepa (keepa t1_3 l101) (lta l101))), (keepd (keepa (keepa t1_4 l101) (lta l101)))⟩ | (have _ := gx; with_reducible exact ⟨(keeps (keeps (keeps (keeps (keeps s0_0 gn0) gn0) gn0) gn0) gn0), (keeps (keeps (keeps (keeps (keeps s0_1 gn0) gn0) gn0) gn0) gn0), (keeps (keeps (keeps (keeps (keeps s0_2 gn0) gn0) gn0) gn0) gn0), (keeps (keeps (keeps (keeps (keeps s0_3 gn0) gn0) gn0) gn0) gn0), (keeps (keeps (keeps (keeps (keeps s0_4 gn0) gn0) gn0) gn0) gn0), (keeps (keeps (keeps (keeps (keeps t0_0 gn100) gn100) gn100) gn100) gn100), (keeps (keeps (keeps (keeps (keeps t0_1 gn100) gn100) gn100) gn100) gn100), (keeps (keeps (keeps (keeps (keeps t0_2 gn100) gn100) gn100) gn100) gn100), (keeps (keeps (keeps (keeps (keeps t0_3 gn100) gn100) gn100) gn100) gn100), (keeps (keeps (keeps (keeps (keeps t0_4 gn100) gn100) gn100) gn100) gn100), (keeps (keeps (keeps (keeps (keeps t1_0 gn101) gn101) gn101) gn101) gn101), (keeps (keeps (keeps (keeps (keeps t1_1 gn101) gn101) gn101) gn101) gn101), (keeps (keeps (keeps (keeps (keeps t1_2 gn101) gn101) gn101) gn101) gn101), (keeps (keeps (keeps (keeps (keeps t1_3 gn101) gn101) gn101) gn101) gn101), (keeps (keeps (keeps (keeps (keeps t1_4 gn101) gn101) gn101) gn101) gn101)⟩)) (first
      | (go_at_call 42; refine (rre_e x R0 hR0.out A1 A2 A3 cA1 cA2 cA3 _ (by first | with_reducible exact hx | with_reducible exact num3C_alloc hx | exact hx | exact num3C_alloc hx) (sz.mono HSX.out (by omega))).mono ?_; rintro e w9 ⟨P1, P2, P3, cP1, cP2, cP3, rfl, pm, ha⟩; have hb9 : Below w8.heap.size w8 w9 := (by first | with_reducible exact ha | with_reducible exact undrew ha | with_reducible exact unalloc ha | with_reducible exact undrewalloc ha | with_reducible exact undrew (unalloc ha)); (try replace gx := gx.to hb9); (try ((first | (with_reducible have gx := newvarN ha) | (with_reducible have gx := newvarN (undrew ha)) | (with_reducible have gx := newvarN (unalloc ha)) | (with_reducible have gx := newvarN (undrewalloc ha))); have gn0 := Nat.ne_of_lt (Nat.lt_of_lt_of_le l0 gx.1); have gn1 := Nat.ne_of_lt (Nat.lt_of_lt_of_le l1 gx.1); have gn100 := Nat.ne_of_lt (Nat.lt_of_lt_of_le l100 gx.1); have gn101 := Nat.ne_of_lt (Nat.lt_of_lt_of_le l101 gx.1); have gn102 := Nat.ne_of_lt (Nat.lt_of_lt_of_le l102 gx.1); have gge := Nat.le_trans gB.out.size gx.1)); replace gB := Lib.hid (onto gB.out hb9); replace s0_0 := keepc hb9 s0_0 l0; replace s0_1 := keepc hb9 s0_1 l0; replace s0_2 := keepc hb9 s0_2 l0; replace s0_3 := keepc hb9 s0_3 l0; replace s0_4 := keepc hb9 s0_4 l0; replace t0_0 := keepc hb9 t0_0 l100; replace t0_1 := keepc hb9 t0_1 l100; replace t0_2 := keepc hb9 t0_2 l100; replace t0_3 := keepc hb9 t0_3 l100; replace t0_4 := keepc hb9 t0_4 l100; replace t1_0 := keepc hb9 t1_0 l101; replace t1_1 := keepc hb9 t1_1 l101; replace t1_2 := keepc hb9 t1_2 l101; replace t1_3 := keepc hb9 t1_3 l101; replace t1_4 := keepc hb9 t1_4 l101; replace t2_0 := keepc hb9 t2_0 l102; replace t2_1 := keepc hb9 t2_1 l102; replace t2_2 := keepc hb9 t2_2 l102; replace t2_3 := keepc hb9 t2_3 l102; replace t2_4 := keepc hb9 t2_4 l102; replace rz := rz.to hb9; replace l0 := Nat.lt_of_lt_of_le l0 hb9.size; replace l1 := Nat.lt_of_lt_of_le l1 hb9.size; replace l100 := Nat.lt_of_lt_of_le l100 hb9.size; replace l101 := Nat.lt_of_lt_of_le l101 hb9.size; replace l102 := Nat.lt_of_lt_of_le l102 hb9.size; replace hx := hx.to hb9; replace hn := hn.to hb9; replace hrn := hrn.to hb9; replace ht := ht.to hb9; replace hhn := hhn.to hb9; replace hv21 := hv21.to hb9; replace hv22 := hv22.to hb9; replace hv23 := hv23.to hb9; replace HW := Lib.hid (hstep HW hb9); clear hb9; clear ha)
      | (go_at_call 29; refine (rsub_e D1 r R0 hD1.out R1 R2 R3 P1 P2 P3 cR1 cR2 cR3 cP1 cP2 cP3 _ (by first | with_reducible exact hrn | with_reducible exact num3C_alloc hrn | exact hrn | exact num3C_alloc hrn) (by first | with_reducible exact pm | with_reducible exact num3C_alloc pm | exact pm | exact num3C_alloc pm) (sz.mono zr.out (by omega)) (sz.mono zR0.out (by omega))).mono ?_; rintro e w10 ⟨Q1, Q2, Q3, cQ1, cQ2, cQ3, rfl, qm, ha⟩; have hb10 : Below w9.heap.size w9 w10 := (by first | with_reducible exact ha | with_reducible exact undrew ha | with_reducible exact unalloc ha | with_reducible exact undrewalloc ha | with_reducible exact undrew (unalloc ha)); (try replace gx := gx.to hb10); (try ((first | (with_reducible have gx := newvarN ha) | (with_reducible have gx := newvarN (undrew ha)) | (with_reducible have gx := newvarN (unalloc ha)) | (with_reducible have gx := newvarN (undrewalloc ha))); have gn0 := Nat.ne_of_lt (Nat.lt_of_lt_of_le l0 gx.1); have gn1 := Nat.ne_of_lt (Nat.lt_of_lt_of_le l1 gx.1); have gn100 := Nat.ne_of_lt (Nat.lt_of_lt_of_le l100 gx.1); have gn101 := Nat.ne_of_lt (Nat.lt_of_lt_of_le l101 gx.1); have gn102 := Nat.ne_of_lt (Nat.lt_of_lt_of_le l102 gx.1); have gge := Nat.le_trans gB.out.size gx.1)); replace gB := Lib.hid (onto gB.out hb10); replace s0_0 := keepc hb10 s0_0 l0; replace s0_1 := keepc hb10 s0_1 l0; replace s0_2 := keepc hb10 s0_2 l0; replace s0_3 := keepc hb10 s0_3 l0; replace s0_4 := keepc hb10 s0_4 l0; replace t0_0 := keepc hb10 t0_0 l100; replace t0_1 := keepc hb10 t0_1 l100; replace t0_2 := keepc hb10 t0_2 l100; replace t0_3 := keepc hb10 t0_3 l100; replace t0_4 := keepc hb10 t0_4 l100; replace t1_0 := keepc hb10 t1_0 l101; replace t1_1 := keepc hb10 t1_1 l101; replace t1_2 := keepc hb10 t1_2 l101; replace t1_3 := keepc hb10 t1_3 l101; replace t1_4 := keepc hb10 t1_4 l101; replace t2_0 := keepc hb10 t2_0 l102; replace t2_1 := keepc hb10 t2_1 l102; replace t2_2 := keepc hb10 t2_2 l102; replace t2_3 := keepc hb10 t2_3 l102; replace t2_4 := keepc hb10 t2_4 l102; replace rz := rz.to hb10; replace l0 := Nat.lt_of_lt_of_le l0 hb10.size; replace l1 := Nat.lt_of_lt_of_le l1 hb10.size; replace l100 := Nat.lt_of_lt_of_le l100 hb10.size; replace l101 := Nat.lt_of_lt_of_le l101 hb10.size; replace l102 := Nat.lt_of_lt_of_le l102 hb10.size; replace hx := hx.to hb10; replace hn := hn.to hb10; replace hrn := hrn.to hb10; replace ht := ht.to hb10; replace hhn := hhn.to hb10; replace hv21 := hv21.to hb10; replace hv22 := hv22.to hb10; replace hv23 := hv23.to hb10; replace pm := pm.to hb10; replace HW := Lib.hid (hstep HW hb10); clear hb10; clear ha)
      | (go_at_call 31; refine (rmul_e V0 D1 H hV0.out Q1 Q2 Q3 H1 H2 H3 cQ1 cQ2 cQ3 cH1 cH2 cH3 _ (by first | with_reducible exact qm | with_reducible exact num3C_alloc qm | exact qm | exact num3C_alloc qm) (by first | with_reducible exact hhn | with_reducible exact num3C_alloc hhn | exact hhn | exact num3C_alloc hhn) (sz.mono zD1.out (by omega)) (sz.mono zH.out (by omega))).mono ?_; rintro e w11 ⟨M1, M2, M3, cM1, cM2, cM3, rfl, mm, ha⟩; have hb11 : Below w10.heap.size w10 w11 := (by first | with_reducible exact ha | with_reducible exact undrew ha | with_reducible exact unalloc ha | with_reducible exact undrewalloc ha | with_reducible exact undrew (unalloc ha)); (try replace gx := gx.to hb11); (try ((first | (with_reducible have gx := newvarN ha) | (with_reducible have gx := newvarN (undrew ha)) | (with_reducible have gx := newvarN (unalloc ha)) | (with_reducible have gx := newvarN (undrewalloc ha))); have gn0 := Nat.ne_of_lt (Nat.lt_of_lt_of_le l0 gx.1); have gn1 := Nat.ne_of_lt (Nat.lt_of_lt_of_le l1 gx.1); have gn100 := Nat.ne_of_lt (Nat.lt_of_lt_of_le l100 gx.1); have gn101 := Nat.ne_of_lt (Nat.lt_of_lt_of_le l101 gx.1); have gn102 := Nat.ne_of_lt (Nat.lt_of_lt_of_le l102 gx.1); have gge := Nat.le_trans gB.out.size gx.1)); replace gB := Lib.hid (onto gB.out hb11); replace s0_0 := keepc hb11 s0_0 l0; replace s0_1 := keepc hb11 s0_1 l0; replace s0_2 := keepc hb11 s0_2 l0; replace s0_3 := keepc hb11 s0_3 l0; replace s0_4 := keepc hb11 s0_4 l0; replace t0_0 := keepc hb11 t0_0 l100; replace t0_1 := keepc hb11 t0_1 l100; replace t0_2 := keepc hb11 t0_2 l100; replace t0_3 := keepc hb11 t0_3 l100; replace t0_4 := keepc hb11 t0_4 l100; replace t1_0 := keepc hb11 t1_0 l101; replace t1_1 := keepc hb11 t1_1 l101; replace t1_2 := keepc hb11 t1_2 l101; replace t1_3 := keepc hb11 t1_3 l101; replace t1_4 := keepc hb11 t1_4 l101; replace t2_0 := keepc hb11 t2_0 l102; replace t2_1 := keepc hb11 t2_1 l102; replace t2_2 := keepc hb11 t2_2 l102; replace t2_3 := keepc hb11 t2_3 l102; replace t2_4 := keepc hb11 t2_4 l102; replace rz := rz.to hb11; replace l0 := Nat.lt_of_lt_of_le l0 hb11.size; replace l1 := Nat.lt_of_lt_of_le l1 hb11.size; replace l100 := Nat.lt_of_lt_of_le l100 hb11.size; replace l101 := Nat.lt_of_lt_of_le l101 hb11.size; replace l102 := Nat.lt_of_lt_of_le l102 hb11.size; replace hx := hx.to hb11; replace hn := hn.to hb11; replace hrn := hrn.to hb11; replace ht := ht.to hb11; replace hhn := hhn.to hb11; replace hv21 := hv21.to hb11; replace hv22 := hv22.to hb11; replace hv23 := hv23.to hb11; replace pm := pm.to hb11; replace qm := qm.to hb11; replace HW := Lib.hid (hstep HW hb11); clear hb11; clear ha)
      | (go_at_call 134; refine (rroot_e V0 v b3 hb3.out hv.out M1 M2 M3 cM1 cM2 cM3 _ (by first | with_reducible exact mm | with_reducible exact num3C_alloc mm | exact mm | exact num3C_alloc mm) (sz.mono zV0.out (by omega))).mono ?_; rintro e w12 ⟨Z1, Z2, Z3, cZ1, cZ2, cZ3, rfl, z12, ha⟩; have hb12 : Below w11.heap.size w11 w12 := (by first | with_reducible exact ha | with_reducible exact undrew ha | with_reducible exact unalloc ha | with_reducible exact undrewalloc ha | with_reducible exact undrew (unalloc ha)); (try replace gx := gx.to hb12); (try ((first | (with_reducible have gx := newvarN ha) | (with_reducible have gx := newvarN (undrew ha)) | (with_reducible have gx := newvarN (unalloc ha)) | (with_reducible have gx := newvarN (undrewalloc ha))); have gn0 := Nat.ne_of_lt (Nat.lt_of_lt_of_le l0 gx.1); have gn1 := Nat.ne_of_lt (Nat.lt_of_lt_of_le l1 gx.1); have gn100 := Nat.ne_of_lt (Nat.lt_of_lt_of_le l100 gx.1); have gn101 := Nat.ne_of_lt (Nat.lt_of_lt_of_le l101 gx.1); have gn102 := Nat.ne_of_lt (Nat.lt_of_lt_of_le l102 gx.1); have gge := Nat.le_trans gB.out.size gx.1)); replace gB := Lib.hid (onto gB.out hb12); replace s0_0 := keepc hb12 s0_0 l0; replace s0_1 := keepc hb12 s0_1 l0; replace s0_2 := keepc hb12 s0_2 l0; replace s0_3 := keepc hb12 s0_3 l0; replace s0_4 := keepc hb12 s0_4 l0; replace t0_0 := keepc hb12 t0_0 l100; replace t0_1 := keepc hb12 t0_1 l100; replace t0_2 := keepc hb12 t0_2 l100; replace t0_3 := keepc hb12 t0_3 l100; replace t0_4 := keepc hb12 t0_4 l100; replace t1_0 := keepc hb12 t1_0 l101; replace t1_1 := keepc hb12 t1_1 l101; replace t1_2 := keepc hb12 t1_2 l101; replace t1_3 := keepc hb12 t1_3 l101; replace t1_4 := keepc hb12 t1_4 l101; replace t2_0 := keepc hb12 t2_0 l102; replace t2_1 := keepc hb12 t2_1 l102; replace t2_2 := keepc hb12 t2_2 l102; replace t2_3 := keepc hb12 t2_3 l102; replace t2_4 := keepc hb12 t2_4 l102; replace rz := rz.to hb12; replace l0 := Nat.lt_of_lt_of_le l0 hb12.size; replace l1 := Nat.lt_of_lt_of_le l1 hb12.size; replace l100 := Nat.lt_of_lt_of_le l100 hb12.size; replace l101 := Nat.lt_of_lt_of_le l101 hb12.size; replace l102 := Nat.lt_of_lt_of_le l102 hb12.size; replace hx := hx.to hb12; replace hn := hn.to hb12; replace hrn := hrn.to hb12; replace ht := ht.to hb12; replace hhn := hhn.to hb12; replace hv21 := hv21.to hb12; replace hv22 := hv22.to hb12; replace hv23 := hv23.to hb12; replace pm := pm.to hb12; replace qm := qm.to hb12; replace mm := mm.to hb12; replace HW := Lib.hid (hstep HW hb12); clear hb12; clear ha; (try (have gy := gx; obtain ⟨_, gl, ⟨gc0, gc1, gc2, gc3, gc4⟩, gf0, gf1, gf2, gf3, gf4⟩ := gy))))
    all_goals
      go_wp2_with fail
      go_meet
      first | with_reducible exact ⟨varNumC_set gB.out gx gge z12, rfl, frozN_set gx⟩ | with_reducible exact ⟨varNumC_new gB.out z12, rfl, frozN_new _ _ _⟩
  case rest =>
  obtain ⟨⟨g3, V31, V32, V33, cV31, cV32, cV33, hp3, ⟨t3_0, t3_1, t3_2, t3_3, t3_4⟩, hv3, hg3, l103, hb9⟩, hev, hfz3⟩ := hcut
  obtain ⟨hv31, hv32, hv33⟩ := hv3
  subst hp3 hev
  replace hfz3 := hfz3 _ rfl
  have z3_0 := hfz3 0 (by omega)
  have z3_1 := hfz3 1 (by omega)
  have z3_2 := hfz3 2 (by omega)
  have z3_3 := hfz3 3 (by omega)
  have z3_4 := hfz3 4 (by omega)
  clear hfz3
  have n103 : g3 ≠ w.heap.size + 1 := by omega
  have m103 : w.heap.size ≤ g3 := by omega
  have d3_0 : g0 ≠ g3 := by omega
  have d3_1 : g1 ≠ g3 := by omega
  have d3_2 : g2 ≠ g3 := by omega
  obtain ⟨w9, rfl⟩ : ∃ X : World, X = wc := ⟨_, rfl⟩
  replace s0_0 := keepc hb9 s0_0 l0
  replace s0_1 := keepc hb9 s0_1 l0
  replace s0_2 := keepc hb9 s0_2 l0
  replace s0_3 := keepc hb9 s0_3 l0
  replace s0_4 := keepc hb9 s0_4 l0
  replace t0_0 := keepc hb9 t0_0 l100
  replace t0_1 := keepc hb9 t0_1 l100
  replace t0_2 := keepc hb9 t0_2 l100
  replace t0_3 := keepc hb9 t0_3 l100
  replace t0_4 := keepc hb9 t0_4 l100
  replace t1_0 := keepc hb9 t1_0 l101
  replace t1_1 := keepc hb9 t1_1 l101
  replace t1_2 := keepc hb9 t1_2 l101
  replace t1_3 := keepc hb9 t1_3 l101
  replace t1_4 := keepc hb9 t1_4 l101
  replace t2_0 := keepc hb9 t2_0 l102
  replace t2_1 := keepc hb9 t2_1 l102
  replace t2_2 := keepc hb9 t2_2 l102
  replace t2_3 := keepc hb9 t2_3 l102
  replace t2_4 := keepc hb9 t2_4 l102
  replace rz := rz.to hb9
  replace l0 := Nat.lt_of_lt_of_le l0 hb9.size
  replace l1 := Nat.lt_of_lt_of_le l1 hb9.size
  replace l100 := Nat.lt_of_lt_of_le l100 hb9.size
  replace l101 := Nat.lt_of_lt_of_le l101 hb9.size
  replace l102 := Nat.lt_of_lt_of_le l102 hb9.size
  replace hx := hx.to hb9
  replace hn := hn.to hb9
  replace hrn := hrn.to hb9
  replace ht := ht.to hb9
  replace hhn := hhn.to hb9
  replace hv21 := hv21.to hb9
  replace hv22 := hv22.to hb9
  replace hv23 := hv23.to hb9
  replace HW := Lib.hid (hstep HW hb9)
  clear hb9
  cases b3
  case false =>
    go_wp2_with fail
    refine (HW0.out _).mono ?_
    rintro e w10 ⟨O1, O2, O3, cO1, cO2, cO3, rfl, ho, hb10⟩
    replace s0_0 := keepc hb10 s0_0 l0
    replace s0_1 := keepc hb10 s0_1 l0
    replace s0_2 := keepc hb10 s0_2 l0
    replace s0_3 := keepc hb10 s0_3 l0
    replace s0_4 := keepc hb10 s0_4 l0
    replace t0_0 := keepc hb10 t0_0 l100
    replace t0_1 := keepc hb10 t0_1 l100
    replace t0_2 := keepc hb10 t0_2 l100
    replace t0_3 := keepc hb10 t0_3 l100
    replace t0_4 := keepc hb10 t0_4 l100
    replace t1_0 := keepc hb10 t1_0 l101
    replace t1_1 := keepc hb10 t1_1 l101
    replace t1_2 := keepc hb10 t1_2 l101
    replace t1_3 := keepc hb10 t1_3 l101
    replace t1_4 := keepc hb10 t1_4 l101
    replace t2_0 := keepc hb10 t2_0 l102
    replace t2_1 := keepc hb10 t2_1 l102
    replace t2_2 := keepc hb10 t2_2 l102
    replace t2_3 := keepc hb10 t2_3 l102
    replace t2_4 := keepc hb10 t2_4 l102
    replace t3_0 := keepc hb10 t3_0 l103
    replace t3_1 := keepc hb10 t3_1 l103
    replace t3_2 := keepc hb10 t3_2 l103
    replace t3_3 := keepc hb10 t3_3 l103
    replace t3_4 := keepc hb10 t3_4 l103
    replace rz := rz.to hb10
    replace l0 := Nat.lt_of_lt_of_le l0 hb10.size
    replace l1 := Nat.lt_of_lt_of_le l1 hb10.size
    replace l100 := Nat.lt_of_lt_of_le l100 hb10.size
    replace l101 := Nat.lt_of_lt_of_le l101 hb10.size
    replace l102 := Nat.lt_of_lt_of_le l102 hb10.size
    replace l103 := Nat.lt_of_lt_of_le l103 hb10.size
    replace hx := hx.to hb10
    replace hn := hn.to hb10
    replace hrn := hrn.to hb10
    replace ht := ht.to hb10
    replace hhn := hhn.to hb10
    replace hv21 := hv21.to hb10
    replace hv22 := hv22.to hb10
    replace hv23 := hv23.to hb10
    replace hv31 := hv31.to hb10
    replace hv32 := hv32.to hb10
    replace hv33 := hv33.to hb10
    replace HW := Lib.hid (hstep HW hb10)
    clear hb10
    obtain ⟨_, _, ⟨r0, r1, r2, r3, r4⟩, f0, f1, f2, f3, f4⟩ := rz
    go_wp2_with fail
    exact bodyPost_ret (v := .tuple #[.agg #[.bool (sn (na O)), .slice O1 (ln (ab (na O))) cO1, .bool (sn (nb O)), .slice O2 (ln (ab (nb O))) cO2, .slice O3 (ln (nd O)) cO3], .bool false]) (by simp [results, Tryz.results72, go_sem, r0, r1, r2, r3, r4, f0, f1, f2, f3, f4]) rfl ⟨false, O, LAW.out.2.2.1 (by simp) (by simp), retNumCB_fin HW ho (by omega) r0⟩
  case true =>
  obtain ⟨sg, hsg⟩ : ∃ s, sn (nb x) = s := ⟨_, rfl⟩
  have k0 := s0_2
  rw [hsg] at k0
  clear s0_2
  replace hsg := Lib.hid hsg
  clear t0_0 t0_1 t0_2 t0_3 t0_4 t1_0 t1_1 t1_2 t1_3 t1_4 s0_0 s0_1 s0_3 s0_4
  cases sg
  case false =>
    clear z3_0 z3_1 z3_2 z3_3 z3_4
    go_wp2_with fail
    obtain ⟨m, hm⟩ : ∃ q, (v).mul i = q := ⟨_, rfl⟩
    obtain ⟨q, hq⟩ : ∃ q, u.add m = q := ⟨_, rfl⟩
    have zm : Hid (sz 20000000 m) := Lib.hid (by rw [← hm]; exact sz.mono (sz_mul zv.out (by rw [hi.out]; exact sz.mono iu_sz (by omega))) (by omega))
    have LW : Hid (IsRt x true q) := Lib.hid (by rw [← hq, ← hm]; exact (LAW.out.2.2.2 (by simp) (by simp) (by simp)).1 hsg.out)
    replace hm := Lib.hid hm
    replace hq := Lib.hid hq
    go_region_held3 (fun w' => w'.cell? ⟨g2, 0, none⟩ = some (.bool (sn (na (u)))) ∧ w'.cell? ⟨g2, 1, none⟩ = some (.slice V21 (ln (ab (na (u)))) cV21) ∧ w'.cell? ⟨g2, 2, none⟩ = some (.bool (sn (nb (u)))) ∧ w'.cell? ⟨g2, 3, none⟩ = some (.slice V22 (ln (ab (nb (u)))) cV22) ∧ w'.cell? ⟨g2, 4, none⟩ = some (.slice V23 (ln (nd (u))) cV23) ∧ w'.cell? ⟨g3, 0, none⟩ = some (.bool (sn (na (v)))) ∧ w'.cell? ⟨g3, 1, none⟩ = some (.slice V31 (ln (ab (na (v)))) cV31) ∧ w'.cell? ⟨g3, 2, none⟩ = some (.bool (sn (nb (v)))) ∧ w'.cell? ⟨g3, 3, none⟩ = some (.slice V32 (ln (ab (nb (v)))) cV32) ∧ w'.cell? ⟨g3, 4, none⟩ = some (.slice V33 (ln (nd (v))) cV33)) (first | with_reducible exact ⟨t2_0, t2_1, t2_2, t2_3, t2_4, t3_0, t3_1, t3_2, t3_3, t3_4⟩ | with_reducible exact ⟨(keepd t2_0), (keepd t2_1), (keepd t2_2), (keepd t2_3), (keepd t2_4), (keepd t3_0), (keepd t3_1), (keepd t3_2), (keepd t3_3), (keepd t3_4)⟩ | with_reducible exact ⟨(keepa t2_0 l102), (keepa t2_1 l102), (keepa t2_2 l102), (keepa t2_3 l102), (keepa t2_4 l102), (keepa t3_0 l103), (keepa t3_1 l103), (keepa t3_2 l103), (keepa t3_3 l103), (keepa t3_4 l103)⟩ | with_reducible exact ⟨(keepd (keepa t2_0 l102)), (keepd (keepa t2_1 l102)), (keepd (keepa t2_2 l102)), (keepd (keepa t2_3 l102)), (keepd (keepa t2_4 l102)), (keepd (keepa t3_0 l103)), (keepd (keepa t3_1 l103)), (keepd (keepa t3_2 l103)), (keepd (keepa t3_3 l103)), (keepd (keepa t3_4 l103))⟩ | with_reducible exact ⟨(keepa (keepd t2_0) l102), (keepa (keepd t2_1) l102), (keepa (keepd t2_2) l102), (keepa (keepd t2_3) l102), (keepa (keepd t2_4) l102), (keepa (keepd t3_0) l103), (keepa (keepd t3_1) l103), (keepa (keepd t3_2) l103), (keepa (keepd t3_3) l103), (keepa (keepd t3_4) l103)⟩ | with_reducible exact ⟨(keeps (keeps (keeps (keeps (keeps t2_0 n102) n102) n102) n102) n102), (keeps (keeps (keeps (keeps (keeps t2_1 n102) n102) n102) n102) n102), (keeps (keeps (keeps (keeps (keeps t2_2 n102) n102) n102) n102) n102), (keeps (keeps (keeps (keeps (keeps t2_3 n102) n102) n102) n102) n102), (keeps (keeps (keeps (keeps (keeps t2_4 n102) n102) n102) n102) n102), (keeps (keeps (keeps (keeps (keeps t3_0 n103) n103) n103) n103) n103), (keeps (keeps (keeps (keeps (keeps t3_1 n103) n103) n103) n103) n103), (keeps (keeps (keeps (keeps (keeps t3_2 n103) n103) n103) n103) n103), (keeps (keeps (keeps (keeps (keeps t3_3 n103) n103) n103) n103) n103), (keeps (keeps (keeps (keeps (keeps t3_4 n103) n103) n103) n103) n103)⟩) (first
      | (have _ := mk1; go_at_call 27; refine (radd_e q u m hq.out V21 V22 V23 X1 X2 X3 cV21 cV22 cV23 cX1 cX2 cX3 _ (by exact num3C_mk hv21 hv22 hv23) (by exact xm) (sz.mono zu.out (by omega)) (sz.mono zm.out (by omega))).mono ?_; rintro e w12 ⟨Y1, Y2, Y3, cY1, cY2, cY3, rfl, ym, ha⟩; have hb12 : Below w11.heap.size w11 w12 := (by first | with_reducible exact ha | with_reducible exact undrew ha | with_reducible exact unalloc ha | with_reducible exact undrewalloc ha | with_reducible exact unalloc (undrew ha) | with_reducible exact undrew (unalloc ha)); (try replace q1 := q1.to hb12); (try first | (with_reducible have q1 := newnat ha) | (with_reducible have q1 := newnat (undrew ha)) | (with_reducible have q1 := newnat (unalloc ha))); replace t2_0 := keepc hb12 t2_0 l102; replace t2_1 := keepc hb12 t2_1 l102; replace t2_2 := keepc hb12 t2_2 l102; replace t2_3 := keepc hb12 t2_3 l102; replace t2_4 := keepc hb12 t2_4 l102; replace t3_0 := keepc hb12 t3_0 l103; replace t3_1 := keepc hb12 t3_1 l103; replace t3_2 := keepc hb12 t3_2 l103; replace t3_3 := keepc hb12 t3_3 l103; replace t3_4 := keepc hb12 t3_4 l103; replace rz := rz.to hb12; replace l0 := Nat.lt_of_lt_of_le l0 hb12.size; replace l1 := Nat.lt_of_lt_of_le l1 hb12.size; replace l100 := Nat.lt_of_lt_of_le l100 hb12.size; replace l101 := Nat.lt_of_lt_of_le l101 hb12.size; replace l102 := Nat.lt_of_lt_of_le l102 hb12.size; replace l103 := Nat.lt_of_lt_of_le l103 hb12.size; replace hx := hx.to hb12; replace hn := hn.to hb12; replace hrn := hrn.to hb12; replace ht := ht.to hb12; replace hhn := hhn.to hb12; replace hv21 := hv21.to hb12; replace hv22 := hv22.to hb12; replace hv23 := hv23.to hb12; replace hv31 := hv31.to hb12; replace hv32 := hv32.to hb12; replace hv33 := hv33.to hb12; replace jt := jt.to hb12; replace xm := xm.to hb12; replace HW := Lib.hid (hstep HW hb12); clear hb12; clear ha; have mk2 : True := trivial; clear mk1; obtain ⟨_, _, ⟨r0, r1, r2, r3, r4⟩, f0, f1, f2, f3, f4⟩ := rz)
      | (have _ := mk0; go_at_call 31; refine (rmul_iu (v) i m z hz.out hi.out hm.out V31 V32 V33 J _ cV31 cV32 cV33 cJ _ (by first | with_reducible exact num3C_mk hv31 hv32 hv33 | with_reducible exact num3C_alloc (num3C_mk hv31 hv32 hv33)) (by first | with_reducible exact jt | with_reducible exact jt.alloc _ | exact jt | exact jt.alloc _) (by first | with_reducible exact q1 | with_reducible exact nat1_new _ _ | exact q1 | exact nat1_new _ _) (sz.mono zv.out (by omega))).mono ?_; rintro e w11 ⟨X1, X2, X3, cX1, cX2, cX3, rfl, xm, ha⟩; have hb11 : Below w10.heap.size w10 w11 := (by first | with_reducible exact ha | with_reducible exact undrew ha | with_reducible exact unalloc ha | with_reducible exact undrewalloc ha | with_reducible exact unalloc (undrew ha) | with_reducible exact undrew (unalloc ha)); (try replace q1 := q1.to hb11); (try first | (with_reducible have q1 := newnat ha) | (with_reducible have q1 := newnat (undrew ha)) | (with_reducible have q1 := newnat (unalloc ha))); replace t2_0 := keepc hb11 t2_0 l102; replace t2_1 := keepc hb11 t2_1 l102; replace t2_2 := keepc hb11 t2_2 l102; replace t2_3 := keepc hb11 t2_3 l102; replace t2_4 := keepc hb11 t2_4 l102; replace t3_0 := keepc hb11 t3_0 l103; replace t3_1 := keepc hb11 t3_1 l103; replace t3_2 := keepc hb11 t3_2 l103; replace t3_3 := keepc hb11 t3_3 l103; replace t3_4 := keepc hb11 t3_4 l103; replace rz := rz.to hb11; replace l0 := Nat.lt_of_lt_of_le l0 hb11.size; replace l1 := Nat.lt_of_lt_of_le l1 hb11.size; replace l100 := Nat.lt_of_lt_of_le l100 hb11.size; replace l101 := Nat.lt_of_lt_of_le l101 hb11.size; replace l102 := Nat.lt_of_lt_of_le l102 hb11.size; replace l103 := Nat.lt_of_lt_of_le l103 hb11.size; replace hx := hx.to hb11; replace hn := hn.to hb11; replace hrn := hrn.to hb11; replace ht := ht.to hb11; replace hhn := hhn.to hb11; replace hv21 := hv21.to hb11; replace hv22 := hv22.to hb11; replace hv23 := hv23.to hb11; replace hv31 := hv31.to hb11; replace hv32 := hv32.to hb11; replace hv33 := hv33.to hb11; replace jt := jt.to hb11; replace HW := Lib.hid (hstep HW hb11); clear hb11; clear ha; have mk1 : True := trivial; clear mk0)
      | (go_at_call 126; refine (rint_1 z hz.out _).mono ?_; rintro e w10 ⟨J, cJ, rfl, jt, ha⟩; have hb10 : Below w9.heap.size w9 w10 := (by first | with_reducible exact ha | with_reducible exact undrew ha | with_reducible exact unalloc ha | with_reducible exact undrewalloc ha | with_reducible exact unalloc (undrew ha) | with_reducible exact undrew (unalloc ha)); (try replace q1 := q1.to hb10); (try first | (with_reducible have q1 := newnat ha) | (with_reducible have q1 := newnat (undrew ha)) | (with_reducible have q1 := newnat (unalloc ha))); replace t2_0 := keepc hb10 t2_0 l102; replace t2_1 := keepc hb10 t2_1 l102; replace t2_2 := keepc hb10 t2_2 l102; replace t2_3 := keepc hb10 t2_3 l102; replace t2_4 := keepc hb10 t2_4 l102; replace t3_0 := keepc hb10 t3_0 l103; replace t3_1 := keepc hb10 t3_1 l103; replace t3_2 := keepc hb10 t3_2 l103; replace t3_3 := keepc hb10 t3_3 l103; replace t3_4 := keepc hb10 t3_4 l103; replace rz := rz.to hb10; replace l0 := Nat.lt_of_lt_of_le l0 hb10.size; replace l1 := Nat.lt_of_lt_of_le l1 hb10.size; replace l100 := Nat.lt_of_lt_of_le l100 hb10.size; replace l101 := Nat.lt_of_lt_of_le l101 hb10.size; replace l102 := Nat.lt_of_lt_of_le l102 hb10.size; replace l103 := Nat.lt_of_lt_of_le l103 hb10.size; replace hx := hx.to hb10; replace hn := hn.to hb10; replace hrn := hrn.to hb10; replace ht := ht.to hb10; replace hhn := hhn.to hb10; replace hv21 := hv21.to hb10; replace hv22 := hv22.to hb10; replace hv23 := hv23.to hb10; replace hv31 := hv31.to hb10; replace hv32 := hv32.to hb10; replace hv33 := hv33.to hb10; replace HW := Lib.hid (hstep HW hb10); clear hb10; clear ha; have mk0 : True := trivial))
    all_goals go_wp2_with fail
    all_goals exact bodyPost_ret (v := .tuple #[.agg #[.bool (sn (na q)), .slice Y1 (ln (ab (na q))) cY1, .bool (sn (nb q)), .slice Y2 (ln (ab (nb q))) cY2, .slice Y3 (ln (nd q)) cY3], .bool true]) (by simp [results, Tryz.results72, go_sem, r0, r1, r2, r3, r4, f0, f1, f2, f3, f4]) rfl ⟨true, q, LW.out, retNumCB_fin HW ym (by omega) r0⟩
  case true =>
  go_wp2_with fail
  refine (rneg_e v v.neg rfl V31 V32 V33 cV31 cV32 cV33 _ (by exact num3C_mk hv31 hv32 hv33)).mono ?_
  rintro e w10 ⟨W1, W2, W3, cW1, cW2, cW3, rfl, nv, hb10⟩
  replace z3_4 := keepf hb10 z3_4 l103
  replace z3_3 := keepf hb10 z3_3 l103
  replace z3_2 := keepf hb10 z3_2 l103
  replace z3_1 := keepf hb10 z3_1 l103
  replace z3_0 := keepf hb10 z3_0 l103
  replace t2_0 := keepc hb10 t2_0 l102
  replace t2_1 := keepc hb10 t2_1 l102
  replace t2_2 := keepc hb10 t2_2 l102
  replace t2_3 := keepc hb10 t2_3 l102
  replace t2_4 := keepc hb10 t2_4 l102
  replace t3_0 := keepc hb10 t3_0 l103
  replace t3_1 := keepc hb10 t3_1 l103
  replace t3_2 := keepc hb10 t3_2 l103
  replace t3_3 := keepc hb10 t3_3 l103
  replace t3_4 := keepc hb10 t3_4 l103
  replace rz := rz.to hb10
  replace l0 := Nat.lt_of_lt_of_le l0 hb10.size
  replace l1 := Nat.lt_of_lt_of_le l1 hb10.size
  replace l100 := Nat.lt_of_lt_of_le l100 hb10.size
  replace l101 := Nat.lt_of_lt_of_le l101 hb10.size
  replace l102 := Nat.lt_of_lt_of_le l102 hb10.size
  replace l103 := Nat.lt_of_lt_of_le l103 hb10.size
  replace hx := hx.to hb10
  replace hn := hn.to hb10
  replace hrn := hrn.to hb10
  replace ht := ht.to hb10
  replace hhn := hhn.to hb10
  replace hv21 := hv21.to hb10
  replace hv22 := hv22.to hb10
  replace hv23 := hv23.to hb10
  replace hv31 := hv31.to hb10
  replace hv32 := hv32.to hb10
  replace hv33 := hv33.to hb10
  replace HW := Lib.hid (hstep HW hb10)
  clear hb10
  go_upto_region 15 with fail
  obtain ⟨X, hX⟩ : ∃ X : World, X = (((((w10.setCell ⟨g3, 0, none⟩ (.bool (sn (na v.neg)))).setCell ⟨g3, 1, none⟩ (.slice W1 (ln (ab (na v.neg))) cW1)).setCell ⟨g3, 2, none⟩ (.bool (sn (nb v.neg)))).setCell ⟨g3, 3, none⟩ (.slice W2 (ln (ab (nb v.neg))) cW2)).setCell ⟨g3, 4, none⟩ (.slice W3 (ln (nd v.neg)) cW3)) := ⟨_, rfl⟩
  rw [← hX]
  have S5 := sets_mk t3_0 t3_1 t3_2 t3_3 t3_4 hX
  clear hX
  have n23 := d3_2
  replace t3_0 := S5.c0
  replace t2_0 := S5.oth _ _ _ n23 t2_0
  replace t3_1 := S5.c1
  replace t2_1 := S5.oth _ _ _ n23 t2_1
  replace t3_2 := S5.c2
  replace t2_2 := S5.oth _ _ _ n23 t2_2
  replace t3_3 := S5.c3
  replace t2_3 := S5.oth _ _ _ n23 t2_3
  replace t3_4 := S5.c4
  replace t2_4 := S5.oth _ _ _ n23 t2_4
  obtain ⟨_, _, ⟨r0, r1, r2, r3, r4⟩, f0, f1, f2, f3, f4⟩ := rz
  replace r0 := S5.oth _ _ _ (Ne.symm n103) r0
  replace f0 := S5.fro _ _ _ f0
  replace r1 := S5.oth _ _ _ (Ne.symm n103) r1
  replace f1 := S5.fro _ _ _ f1
  replace r2 := S5.oth _ _ _ (Ne.symm n103) r2
  replace f2 := S5.fro _ _ _ f2
  replace r3 := S5.oth _ _ _ (Ne.symm n103) r3
  replace f3 := S5.fro _ _ _ f3
  replace r4 := S5.oth _ _ _ (Ne.symm n103) r4
  replace f4 := S5.fro _ _ _ f4
  replace nv : Num3C X W1 W2 W3 v.neg := ⟨S5.nat _ _ nv.1, S5.nat _ _ nv.2.1, S5.nat _ _ nv.2.2⟩
  replace hv21 := S5.nat _ _ hv21
  replace hv22 := S5.nat _ _ hv22
  replace hv23 := S5.nat _ _ hv23
  replace HW : Hid (Below w.heap.size w X) := Lib.hid (S5.bel w HW.out m103)
  replace l0 := Nat.lt_of_lt_of_eq l0 S5.size.symm
  replace l1 := Nat.lt_of_lt_of_eq l1 S5.size.symm
  replace l100 := Nat.lt_of_lt_of_eq l100 S5.size.symm
  replace l101 := Nat.lt_of_lt_of_eq l101 S5.size.symm
  replace l102 := Nat.lt_of_lt_of_eq l102 S5.size.symm
  replace l103 := Nat.lt_of_lt_of_eq l103 S5.size.symm
  clear S5 z3_0 z3_1 z3_2 z3_3 z3_4 k0 hx hn hrn ht hhn hv31 hv32 hv33
  obtain ⟨m, hm⟩ : ∃ q, (v.neg).mul i = q := ⟨_, rfl⟩
  obtain ⟨q, hq⟩ : ∃ q, u.add m = q := ⟨_, rfl⟩
  have zm : Hid (sz 20000000 m) := Lib.hid (by rw [← hm]; exact sz.mono (sz_mul (sz_neg zv.out) (by rw [hi.out]; exact sz.mono iu_sz (by omega))) (by omega))
  have LW : Hid (IsRt x true q) := Lib.hid (by rw [← hq, ← hm]; exact (LAW.out.2.2.2 (by simp) (by simp) (by simp)).2 hsg.out)
  replace hm := Lib.hid hm
  replace hq := Lib.hid hq
  go_region_held3 (fun w' => w'.cell? ⟨g2, 0, none⟩ = some (.bool (sn (na (u)))) ∧ w'.cell? ⟨g2, 1, none⟩ = some (.slice V21 (ln (ab (na (u)))) cV21) ∧ w'.cell? ⟨g2, 2, none⟩ = some (.bool (sn (nb (u)))) ∧ w'.cell? ⟨g2, 3, none⟩ = some (.slice V22 (ln (ab (nb (u)))) cV22) ∧ w'.cell? ⟨g2, 4, none⟩ = some (.slice V23 (ln (nd (u))) cV23) ∧ w'.cell? ⟨g3, 0, none⟩ = some (.bool (sn (na v.neg))) ∧ w'.cell? ⟨g3, 1, none⟩ = some (.slice W1 (ln (ab (na v.neg))) cW1) ∧ w'.cell? ⟨g3, 2, none⟩ = some (.bool (sn (nb v.neg))) ∧ w'.cell? ⟨g3, 3, none⟩ = some (.slice W2 (ln (ab (nb v.neg))) cW2) ∧ w'.cell? ⟨g3, 4, none⟩ = some (.slice W3 (ln (nd v.neg)) cW3)) (first | with_reducible exact ⟨t2_0, t2_1, t2_2, t2_3, t2_4, t3_0, t3_1, t3_2, t3_3, t3_4⟩ | with_reducible exact ⟨(keepd t2_0), (keepd t2_1), (keepd t2_2), (keepd t2_3), (keepd t2_4), (keepd t3_0), (keepd t3_1), (keepd t3_2), (keepd t3_3), (keepd t3_4)⟩ | with_reducible exact ⟨(keepa t2_0 l102), (keepa t2_1 l102), (keepa t2_2 l102), (keepa t2_3 l102), (keepa t2_4 l102), (keepa t3_0 l103), (keepa t3_1 l103), (keepa t3_2 l103), (keepa t3_3 l103), (keepa t3_4 l103)⟩ | with_reducible exact ⟨(keepd (keepa t2_0 l102)), (keepd (keepa t2_1 l102)), (keepd (keepa t2_2 l102)), (keepd (keepa t2_3 l102)), (keepd (keepa t2_4 l102)), (keepd (keepa t3_0 l103)), (keepd (keepa t3_1 l103)), (keepd (keepa t3_2 l103)), (keepd (keepa t3_3 l103)), (keepd (keepa t3_4 l103))⟩ | with_reducible exact ⟨(keepa (keepd t2_0) l102), (keepa (keepd t2_1) l102), (keepa (keepd t2_2) l102), (keepa (keepd t2_3) l102), (keepa (keepd t2_4) l102), (keepa (keepd t3_0) l103), (keepa (keepd t3_1) l103), (keepa (keepd t3_2) l103), (keepa (keepd t3_3) l103), (keepa (keepd t3_4) l103)⟩ | with_reducible exact ⟨(keeps (keeps (keeps (keeps (keeps t2_0 n102) n102) n102) n102) n102), (keeps (keeps (keeps (keeps (keeps t2_1 n102) n102) n102) n102) n102), (keeps (keeps (keeps (keeps (keeps t2_2 n102) n102) n102) n102) n102), (keeps (keeps (keeps (keeps (keeps t2_3 n102) n102) n102) n102) n102), (keeps (keeps (keeps (keeps (keeps t2_4 n102) n102) n102) n102) n102), (keeps (keeps (keeps (keeps (keeps t3_0 n103) n103) n103) n103) n103), (keeps (keeps (keeps (keeps (keeps t3_1 n103) n103) n103) n103) n103), (keeps (keeps (keeps (keeps (keeps t3_2 n103) n103) n103) n103) n103), (keeps (keeps (keeps (keeps (keeps t3_3 n103) n103) n103) n103) n103), (keeps (keeps (keeps (keeps (keeps t3_4 n103) n103) n103) n103) n103)⟩) (first
    | (have _ := mk1; go_at_call 27; refine (radd_e q u m hq.out V21 V22 V23 X1 X2 X3 cV21 cV22 cV23 cX1 cX2 cX3 _ (by exact num3C_mk hv21 hv22 hv23) (by exact xm) (sz.mono zu.out (by omega)) (sz.mono zm.out (by omega))).mono ?_; rintro e w13 ⟨Y1, Y2, Y3, cY1, cY2, cY3, rfl, ym, ha⟩; have hb13 : Below w12.heap.size w12 w13 := (by first | with_reducible exact ha | with_reducible exact undrew ha | with_reducible exact unalloc ha | with_reducible exact undrewalloc ha | with_reducible exact unalloc (undrew ha) | with_reducible exact undrew (unalloc ha)); (try replace q1 := q1.to hb13); (try first | (with_reducible have q1 := newnat ha) | (with_reducible have q1 := newnat (undrew ha)) | (with_reducible have q1 := newnat (unalloc ha))); replace t2_0 := keepc hb13 t2_0 l102; replace t2_1 := keepc hb13 t2_1 l102; replace t2_2 := keepc hb13 t2_2 l102; replace t2_3 := keepc hb13 t2_3 l102; replace t2_4 := keepc hb13 t2_4 l102; replace t3_0 := keepc hb13 t3_0 l103; replace t3_1 := keepc hb13 t3_1 l103; replace t3_2 := keepc hb13 t3_2 l103; replace t3_3 := keepc hb13 t3_3 l103; replace t3_4 := keepc hb13 t3_4 l103; replace r0 := keepc hb13 r0 l1; replace f0 := keepf hb13 f0 l1; replace r1 := keepc hb13 r1 l1; replace f1 := keepf hb13 f1 l1; replace r2 := keepc hb13 r2 l1; replace f2 := keepf hb13 f2 l1; replace r3 := keepc hb13 r3 l1; replace f3 := keepf hb13 f3 l1; replace r4 := keepc hb13 r4 l1; replace f4 := keepf hb13 f4 l1; replace l0 := Nat.lt_of_lt_of_le l0 hb13.size; replace l1 := Nat.lt_of_lt_of_le l1 hb13.size; replace l100 := Nat.lt_of_lt_of_le l100 hb13.size; replace l101 := Nat.lt_of_lt_of_le l101 hb13.size; replace l102 := Nat.lt_of_lt_of_le l102 hb13.size; replace l103 := Nat.lt_of_lt_of_le l103 hb13.size; replace nv := nv.to hb13; replace hv21 := hv21.to hb13; replace hv22 := hv22.to hb13; replace hv23 := hv23.to hb13; replace jt := jt.to hb13; replace xm := xm.to hb13; replace HW := Lib.hid (hstep HW hb13); clear hb13; clear ha; have mk2 : True := trivial; clear mk1)
    | (have _ := mk0; go_at_call 31; refine (rmul_iu (v.neg) i m z hz.out hi.out hm.out W1 W2 W3 J _ cW1 cW2 cW3 cJ _ (by first | with_reducible exact nv | with_reducible exact num3C_alloc nv | exact nv | exact num3C_alloc nv) (by first | with_reducible exact jt | with_reducible exact jt.alloc _ | exact jt | exact jt.alloc _) (by first | with_reducible exact q1 | with_reducible exact nat1_new _ _ | exact q1 | exact nat1_new _ _) (sz.mono (sz_neg zv.out) (by omega))).mono ?_; rintro e w12 ⟨X1, X2, X3, cX1, cX2, cX3, rfl, xm, ha⟩; have hb12 : Below w11.heap.size w11 w12 := (by first | with_reducible exact ha | with_reducible exact undrew ha | with_reducible exact unalloc ha | with_reducible exact undrewalloc ha | with_reducible exact unalloc (undrew ha) | with_reducible exact undrew (unalloc ha)); (try replace q1 := q1.to hb12); (try first | (with_reducible have q1 := newnat ha) | (with_reducible have q1 := newnat (undrew ha)) | (with_reducible have q1 := newnat (unalloc ha))); replace t2_0 := keepc hb12 t2_0 l102; replace t2_1 := keepc hb12 t2_1 l102; replace t2_2 := keepc hb12 t2_2 l102; replace t2_3 := keepc hb12 t2_3 l102; replace t2_4 := keepc hb12 t2_4 l102; replace t3_0 := keepc hb12 t3_0 l103; replace t3_1 := keepc hb12 t3_1 l103; replace t3_2 := keepc hb12 t3_2 l103; replace t3_3 := keepc hb12 t3_3 l103; replace t3_4 := keepc hb12 t3_4 l103; replace r0 := keepc hb12 r0 l1; replace f0 := keepf hb12 f0 l1; replace r1 := keepc hb12 r1 l1; replace f1 := keepf hb12 f1 l1; replace r2 := keepc hb12 r2 l1; replace f2 := keepf hb12 f2 l1; replace r3 := keepc hb12 r3 l1; replace f3 := keepf hb12 f3 l1; replace r4 := keepc hb12 r4 l1; replace f4 := keepf hb12 f4 l1; replace l0 := Nat.lt_of_lt_of_le l0 hb12.size; replace l1 := Nat.lt_of_lt_of_le l1 hb12.size; replace l100 := Nat.lt_of_lt_of_le l100 hb12.size; replace l101 := Nat.lt_of_lt_of_le l101 hb12.size; replace l102 := Nat.lt_of_lt_of_le l102 hb12.size; replace l103 := Nat.lt_of_lt_of_le l103 hb12.size; replace nv := nv.to hb12; replace hv21 := hv21.to hb12; replace hv22 := hv22.to hb12; replace hv23 := hv23.to hb12; replace jt := jt.to hb12; replace HW := Lib.hid (hstep HW hb12); clear hb12; clear ha; have mk1 : True := trivial; clear mk0)
    | (go_at_call 126; refine (rint_1 z hz.out _).mono ?_; rintro e w11 ⟨J, cJ, rfl, jt, ha⟩; have hb11 : Below X.heap.size X w11 := (by first | with_reducible exact ha | with_reducible exact undrew ha | with_reducible exact unalloc ha | with_reducible exact undrewalloc ha | with_reducible exact unalloc (undrew ha) | with_reducible exact undrew (unalloc ha)); (try replace q1 := q1.to hb11); (try first | (with_reducible have q1 := newnat ha) | (with_reducible have q1 := newnat (undrew ha)) | (with_reducible have q1 := newnat (unalloc ha))); replace t2_0 := keepc hb11 t2_0 l102; replace t2_1 := keepc hb11 t2_1 l102; replace t2_2 := keepc hb11 t2_2 l102; replace t2_3 := keepc hb11 t2_3 l102; replace t2_4 := keepc hb11 t2_4 l102; replace t3_0 := keepc hb11 t3_0 l103; replace t3_1 := keepc hb11 t3_1 l103; replace t3_2 := keepc hb11 t3_2 l103; replace t3_3 := keepc hb11 t3_3 l103; replace t3_4 := keepc hb11 t3_4 l103; replace r0 := keepc hb11 r0 l1; replace f0 := keepf hb11 f0 l1; replace r1 := keepc hb11 r1 l1; replace f1 := keepf hb11 f1 l1; replace r2 := keepc hb11 r2 l1; replace f2 := keepf hb11 f2 l1; replace r3 := keepc hb11 r3 l1; replace f3 := keepf hb11 f3 l1; replace r4 := keepc hb11 r4 l1; replace f4 := keepf hb11 f4 l1; replace l0 := Nat.lt_of_lt_of_le l0 hb11.size; replace l1 := Nat.lt_of_lt_of_le l1 hb11.size; replace l100 := Nat.lt_of_lt_of_le l100 hb11.size; replace l101 := Nat.lt_of_lt_of_le l101 hb11.size; replace l102 := Nat.lt_of_lt_of_le l102 hb11.size; replace l103 := Nat.lt_of_lt_of_le l103 hb11.size; replace nv := nv.to hb11; replace hv21 := hv21.to hb11; replace hv22 := hv22.to hb11; replace hv23 := hv23.to hb11; replace HW := Lib.hid (hstep HW hb11); clear hb11; clear ha; have mk0 : True := trivial))
  all_goals go_wp2_with fail
  all_goals exact bodyPost_ret (v := .tuple #[.agg #[.bool (sn (na q)), .slice Y1 (ln (ab (na q))) cY1, .bool (sn (nb q)), .slice Y2 (ln (ab (nb q))) cY2, .slice Y3 (ln (nd q)) cY3], .bool true]) (by simp [results, Tryz.results72, go_sem, r0, r1, r2, r3, r4, f0, f1, f2, f3, f4]) rfl ⟨true, q, LW.out, retNumCB_fin HW ym (by omega) r0⟩

/-- 'Sqrt' of the reference. -/
theorem rsqrt_any (x : Cx) (A1 A2 A3 : Option Addr) (cA1 cA2 cA3 : Nat) (w : World) (hx : Num3C w A1 A2 A3 x) (hsx : sz 1000000 x) : Calls Tryz.prog 72 #[.agg #[.bool (sn (na x)), .slice A1 (ln (ab (na x))) cA1, .bool (sn (nb x)), .slice A2 (ln (ab (nb x))) cA2, .slice A3 (ln (nd x)) cA3]] w (fun e w' => ∃ b q, IsRt x b q ∧ RetNumCB w b q e w') := by
  by_cases h : x = Cx.zero
  · exact rsqrt_zero x A1 A2 A3 cA1 cA2 cA3 w hx hsx h
  · exact rsqrt_more x A1 A2 A3 cA1 cA2 cA3 w hx hsx h
end Go.Proofs.YtgpmlhpgdalheaaGreat
