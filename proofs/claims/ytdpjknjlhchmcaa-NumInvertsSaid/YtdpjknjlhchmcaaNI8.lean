/- Part 8 of the proof. -/
import Derived.Test.YtdpjknjlhchmcaaNI7
import Derived.Test.YtdpjknjlhchmcaaNI4
import Derived.Test.YtdpjknjlhchmcaaNI2
import Derived.Test.YtdpjknjlhchmcaaNI3
namespace Go.Proofs.Ytdpjknjlhchmcaa
open Go.RowKit Pl
set_option linter.unusedVariables false
set_option linter.unusedSimpArgs false
/-- A list of numbers in memory. -/
def NumsP (w : World) (A : Option Addr) (n : Nat) (q : Nat → Cx) : Prop := ∀ j, j < n → ∃ g, A = some ⟨g, 0, none⟩ ∧ PE w g (j * 5) (q j)
theorem NumsP.to {w w' : World} {A : Option Addr} {n : Nat} {q : Nat → Cx} (h : NumsP w A n q) (hb : Below w.heap.size w w') : NumsP w' A n q := by
  intro j hj; obtain ⟨g, e, p⟩ := h j hj; exact ⟨g, e, p.to hb⟩
/-- A slice of one list is a matrix of one row. -/
theorem NumsP.one {w : World} {B : Option Addr} {n c : Nat} {q : Nat → Cx} {T : TypeId} (h : NumsP w B n q) : MatP (w.alloc (.cells #[.slice B n c] T)) (some ⟨w.heap.size, 0, none⟩) 1 (fun _ => n) (fun _ i => q i) := by
  have hb : Below w.heap.size w (w.alloc (.cells #[.slice B n c] T)) := (Below.refl _ _).alloc (Nat.le_refl _) _
  refine ⟨fun _ => B, fun _ => c, fun i hi => ⟨w.heap.size, 0, rfl, by simp, ?_⟩, fun i hi j hj => ?_⟩
  · obtain rfl : i = 0 := by omega
    go_simp
  · obtain ⟨g, e, p⟩ := h j hj; exact ⟨g, e, p.to hb⟩
/-- The last d numbers of a row of n are computed. -/
def PartX (w : World) (g n d : Nat) (x : Nat → Cx) : Prop := (0 < n → RowB w g 34 (n * 5)) ∧ ∀ i, i < n → n - d ≤ i → PE w g (i * 5) (x i)
theorem PartX.to {w w' : World} {g n d : Nat} {x : Nat → Cx} (h : PartX w g n d x) (hb : Below w.heap.size w w') : PartX w' g n d x := ⟨fun h0 => (h.1 h0).to hb, fun i hi hd => (h.2 i hi hd).to hb⟩
/-- A number more. -/
theorem PartX.put {W : World} {g n d : Nat} {x : Nat → Cx} (h : PartX W g n d x) (hd : d < n) :
    g < W.heap.size ∧ ∀ w, Below W.heap.size W w →
      (∃ u0 u1 u2 u3 u4, w.cell? ⟨g, (n - 1 - d) * 5, none⟩ = some u0 ∧ w.cell? ⟨g, (n - 1 - d) * 5 + 1, none⟩ = some u1 ∧ w.cell? ⟨g, (n - 1 - d) * 5 + 2, none⟩ = some u2 ∧ w.cell? ⟨g, (n - 1 - d) * 5 + 3, none⟩ = some u3 ∧ w.cell? ⟨g, (n - 1 - d) * 5 + 4, none⟩ = some u4) ∧
      (w.frozen? ⟨g, (n - 1 - d) * 5, none⟩ = false ∧ w.frozen? ⟨g, (n - 1 - d) * 5 + 1, none⟩ = false ∧ w.frozen? ⟨g, (n - 1 - d) * 5 + 2, none⟩ = false ∧ w.frozen? ⟨g, (n - 1 - d) * 5 + 3, none⟩ = false ∧ w.frozen? ⟨g, (n - 1 - d) * 5 + 4, none⟩ = false) ∧
      ∀ (x' : Nat → Cx) (q : Cx) (A1 A2 A3 : Option Addr), Num3 w A1 A2 A3 q → x' (n - 1 - d) = q → (∀ i, i < n → n - d ≤ i → x' i = x i) → PartX (set5o w g ((n - 1 - d) * 5) q A1 A2 A3) g n (d + 1) x' := by
  have hl := (h.1 (by omega)).lt
  refine ⟨hl, fun w hb => ?_⟩
  have h' := h.to hb
  obtain ⟨⟨F, q1⟩, c, q2⟩ := h'.1 (by omega)
  refine ⟨⟨_, _, _, _, _, q1.cell (by omega), q1.cell (by omega), q1.cell (by omega), q1.cell (by omega), q1.cell (by omega)⟩, ⟨q1.frozen _, q1.frozen _, q1.frozen _, q1.frozen _, q1.frozen _⟩, fun x' q A1 A2 A3 hq hf hD => ⟨fun h0 => (h'.1 h0).set5o, fun i hi hd2 => ?_⟩⟩
  by_cases e : i = n - 1 - d
  · subst e
    rw [hf]
    exact pe_set q1 (by omega) q2 hq
  · rw [hD i hi (by omega)]
    exact (h'.2 i hi (by omega)).set5o (.inr (by omega)) q2
/-- Sizes of what is computed. -/
def xb (B : Nat) : Nat → Nat
  | 0 => 1
  | d + 1 => 4 * xb B d + 8 * B + 30
theorem xb_mono (B : Nat) : ∀ c d, c ≤ d → xb B c ≤ xb B d := by
  intro c d h
  induction d with
  | zero => rw [Nat.le_zero.1 h]; exact Nat.le_refl _
  | succ d ih =>
    by_cases e : c = d + 1
    · rw [e]; exact Nat.le_refl _
    · have := ih (by omega); show xb B c ≤ 4 * xb B d + 8 * B + 30; omega
theorem xb_le {B n : Nat} (h : n ≤ 5) : xb B n ≤ 2728 * B + 11300 := by
  refine Nat.le_trans (xb_mono B n 5 h) ?_
  simp only [xb]
  omega
theorem sz_bsub {B d n i : Nat} {f : Nat → Nat → Cx} {x : Nat → Cx} (hi : i < n) (hf : ∀ k, k < n + 1 → sz B (f i k)) (hx : ∀ k, i < k → k < n → sz (xb B d) (x k)) : ∀ j, i + 1 + j ≤ n → sz (B + j * (B + xb B d + 2)) (bsub f x n i j) := by
  intro j
  induction j with
  | zero => intro _; exact (hf n (by omega)).mono (by omega)
  | succ j ih =>
    intro h
    exact (sz_sub2 (ih (by omega)) (sz_mul2 (hf (i + 1 + j) (by omega)) (hx (i + 1 + j) (by omega) (by omega)))).mono (by rw [Nat.succ_mul]; omega)
theorem sz_back {B n : Nat} {f : Nat → Nat → Cx} (hn : n ≤ 5) (hB : 1 ≤ B) (hf : ∀ i k, i < n → k < n + 1 → sz B (f i k)) (hd : ∀ i, i < n → f i i ≠ Cx.zero) : ∀ d, d ≤ n → ∀ i, n - d ≤ i → i < n → sz (xb B d) (back f n d i) := by
  intro d
  induction d with
  | zero => intro _ i h1 h2; omega
  | succ d ih =>
    intro hdn i h1 h2
    show sz _ (if i = n - 1 - d then _ else _)
    by_cases e : i = n - 1 - d
    · rw [if_pos e]
      have h3 := sz_bsub (d := d) h2 (fun k hk => hf i k h2 hk) (fun k hk hk2 => ih (by omega) k (by omega) hk2) d (by omega)
      have h4 : d * (B + xb B d + 2) ≤ 4 * (B + xb B d + 2) := Nat.mul_le_mul_right _ (by omega)
      exact (sz_div2 hB h3 (hf i i h2 (by omega)) (hd i h2)).mono (by show _ ≤ 4 * xb B d + 8 * B + 30; omega)
    · rw [if_neg e]
      exact (ih (by omega) i (by omega) h2).mono (xb_mono B d (d + 1) (by omega))
/-- What 'Solve' hands back. -/
def RetSolve (w : World) (n : Nat) (R : Nat × Int × (Nat → Nat → Cx)) (e : Ending) (w' : World) : Prop :=
  (0 ≤ R.2.1 ∧ e = .returned (.tuple #[.slice none 0 0, .int .i64 6]) ∧ Below w.heap.size w w') ∨
  (R.2.1 = -1 ∧ ∃ g, e = .returned (.tuple #[.slice (some ⟨g, 0, none⟩) n n, .int .i64 0]) ∧ NumsP w' (some ⟨g, 0, none⟩) n (back R.2.2 n n) ∧ w.heap.size ≤ g ∧ Below w.heap.size w w')
set_option maxRecDepth 100000 in
set_option maxHeartbeats 40000000 in
theorem solve_any (w : World) (A B : Option Addr) (n c cb K0 : Nat) (N : Nat → Nat) (f : Nat → Nat → Cx) (q : Nat → Cx) (hM : MatP w A n N f) (hq : NumsP w B n q) (hn : n ≤ 5) (hN : ∀ i, i < n → N i = n) (hK : 1 ≤ K0) (hB : 20000 * bd K0 n + 100000 ≤ 137438953472) (hS : ∀ i k, i < n → k < n → sz K0 (f i k)) (hSq : ∀ i, i < n → sz K0 (q i)) :
    Calls Try.prog 20 #[.slice A n c, .slice B n cb] w (RetSolve w n (elimF n 0 0 (beside n f fun _ i => q i))) := by
  have hsq : Valid n N ∧ colN n N = n := by
    unfold Valid colN
    by_cases h : n = 0
    · exact ⟨.inl h, by rw [if_pos h, h]⟩
    · have h0 := hN 0 (by omega)
      exact ⟨.inr ⟨by omega, by omega, fun i hi => by rw [hN i hi, h0]⟩, by rw [if_neg h, h0]⟩
  obtain ⟨F, hF⟩ : ∃ F, F = beside n f fun _ i => q i := ⟨_, rfl⟩
  have hSF : ∀ i k, i < n → k < n + 1 → sz K0 (F i k) := by
    intro i k hi hk
    rw [hF]
    unfold beside
    split
    · exact hS i k hi (by omega)
    · exact hSq i hi
  have HSQ := Lib.hid (square_any w A n c N f hM (by omega) (fun i hi => by rw [hN i hi]; omega) true ⟨fun _ => hsq, fun _ => rfl⟩)
  have HCP := Lib.hid (fun (W : World) (V : Option Addr) (h : MatP W A n N f) (h' : MatP W V 1 (fun _ => n) (fun _ i => q i)) => copied_any W A V n c n 1 1 (fun _ => n) f (fun _ i => q i) (h.congN hN) h' (by omega) (by omega) (by omega) (fun h => h) (fun j hj => ⟨Nat.le_refl n, by omega⟩))
  rw [← hF] at HCP ⊢
  have HEL := Lib.hid (fun (w0 W : World) (z gO : Nat) (h : WkP w0 z gO n (n + 1) F W) => eliminate_any w0 W z gO n (n + 1) n K0 F h (by omega) (by omega) (by omega) hK (by omega) hSF)
  have HSZ := Lib.hid (elim_sz (n := n) (m := n + 1) (by omega) hK n 0 0 F (by omega) hSF)
  have HVL := Lib.hid (elim_vals n 0 0 F (show 0 + n = n by omega))
  have HDG := Lib.hid (elim_diag n 0 0 F (show 0 + n = n by omega) (fun i hi => absurd hi (Nat.not_lt_zero _)))
  obtain ⟨⟨s, st, g⟩, hR⟩ : ∃ R, elimF n 0 0 F = R := ⟨_, rfl⟩
  rw [hR] at HEL HSZ HVL HDG ⊢
  have HM := Lib.hid hM; have HQ := Lib.hid hq
  obtain ⟨BB, hBB⟩ : ∃ b, b = bd K0 n := ⟨_, rfl⟩
  have hB1 : 1 ≤ BB := by rw [hBB]; exact Nat.le_trans hK (bd_le K0 n)
  rw [← hBB] at hB HSZ
  have HBD := Lib.hid (And.intro hB hB1)
  have hmk := mk_nums n (by omega)
  clear hM hq hN hsq hF hR hS hSq hB hK hSF hBB hB1
  have hm_Div : ∀ (k : Nat) (v1 v2 v3 v4 v5 : Value) (w : World), (method (k + 1) 34 (.agg #[v1, v2, v3, v4, v5]) "Div").run Try.prog w = .ok (40, .agg #[v1, v2, v3, v4, v5]) w := fun _ _ _ _ _ _ _ => by kernel_rfl
  have hm_Mul : ∀ (k : Nat) (v1 v2 v3 v4 v5 : Value) (w : World), (method (k + 1) 34 (.agg #[v1, v2, v3, v4, v5]) "Mul").run Try.prog w = .ok (10, .agg #[v1, v2, v3, v4, v5]) w := fun _ _ _ _ _ _ _ => by kernel_rfl
  have hm_Sub : ∀ (k : Nat) (v1 v2 v3 v4 v5 : Value) (w : World), (method (k + 1) 34 (.agg #[v1, v2, v3, v4, v5]) "Sub").run Try.prog w = .ok (47, .agg #[v1, v2, v3, v4, v5]) w := fun _ _ _ _ _ _ _ => by kernel_rfl
  have t0 : ((n : Int) != (n : Int)) = false := by rw [bne_eq_false_iff_eq]
  go_enter Try.func20, Try.ntmps20
  go_wp2_with fail
  refine HSQ.out.mono ?_
  rintro e w1 ⟨rfl, hb⟩
  have HB := Lib.hid hb
  have HQ1 := Lib.hid (HQ.out.to hb)
  have HM1 := Lib.hid (HM.out.to hb)
  clear hb HSQ HM HQ
  go_wp2_with fail
  have hal : Below w1.heap.size w1 (w1.alloc (.cells #[.slice B n cb] 42)) := (Below.refl _ _).alloc (Nat.le_refl _) _
  refine (HCP.out _ _ (HM1.out.to hal) HQ1.out.one).mono ?_
  rintro e w3 ⟨gO, rfl, hbld⟩
  replace HB := Lib.hid (HB.out.trans (hal.mono HB.out.size))
  obtain ⟨w2, hw2⟩ : ∃ X : World, X = w1.alloc (.cells #[.slice B n cb] 42) := ⟨_, rfl⟩
  rw [← hw2] at HB hbld
  have hW := WkP.of hbld (fun h => by omega)
  have hE := HEL.out w2 w3 _ gO hW
  generalize w3.heap.size = z at *
  clear hbld hW HCP HEL hal HM1 HQ1 hw2
  go_wp2_with fail
  refine hE.mono ?_
  rintro e w4 ⟨rfl, hW4⟩
  obtain ⟨gV, hgV⟩ : ∃ g, g = w1.heap.size := ⟨_, rfl⟩
  rw [← hgV] at ⊢
  clear hgV
  have hb := hW4.below
  replace HB := Lib.hid (HB.out.trans (hb.mono HB.out.size))
  have HW := Lib.hid hW4.mat
  have hgO := hW4.lt
  clear hb hE hW4
  by_cases hs0 : 0 ≤ st
  · have t1 : decide ((0 : Int) ≤ st) = true := decide_eq_true hs0
    have HS0 := Lib.hid hs0
    clear hs0
    go_wp2_with fail
    exact bodyPost_ret (v := .tuple #[.slice none 0 0, .int .i64 6]) (by simp [results, Try.results20, go_sem]) rfl (.inl ⟨HS0.out, rfl, HB.out⟩)
  · obtain e0 : st = -1 := HVL.out.resolve_right hs0
    subst e0
    replace HDG := Lib.hid (HDG.out rfl)
    clear hs0 HVL
    go_upto_region 9 with fail
    clear hmk
    have hrow := mkN_row w4 n 34
    have hal := mkN_below w4 n 34
    have hsz5 := mkN_size w4 n 34
    obtain ⟨w5, hw5⟩ : ∃ X : World, X = mkN w4 n 34 := ⟨_, rfl⟩
    rw [← hw5] at hrow hal hsz5 ⊢
    obtain ⟨gX, hgX⟩ : ∃ x, x = w4.heap.size := ⟨_, rfl⟩
    have hP0 : PartX w5 gX n 0 (back g n 0) := ⟨by rw [hgX]; exact hrow, fun i hi hd => by omega⟩
    have HGX := Lib.hid (show w4.heap.size ≤ gX by rw [hgX]; exact Nat.le_refl _)
    have hlx : gX < w5.heap.size := by omega
    rw [← hgX] at ⊢
    clear hw5 hrow hgX hsz5
    go_upto_region 10 with fail
    go_loopw [10] (fun i (wr : World) => ∃ d : Nat, d ≤ n ∧ i = .int .i64 ((n : Int) - 1 - d) ∧ PartX wr gX n d (back g n d) ∧ Below w4.heap.size w4 wr ∧ gX < wr.heap.size) (fun i _ => (intOf i + 1).toNat)
    case atStart => exact ⟨0, Nat.zero_le _, by go_num, hP0, hal, hlx⟩
    case round =>
      obtain ⟨d, hd, rfl, hP, hbw, hlx'⟩ := hrel
      clear hP0 hal hlx
      by_cases hdn : d < n
      · obtain ⟨cc, hcc⟩ : ∃ cc, cc = n - 1 - d := ⟨_, rfl⟩
        have hcn : cc < n := by omega
        have ec : (n : Int) - 1 - (d : Int) = (cc : Int) := by omega
        rw [ec]
        obtain ⟨b, fo, gr0, kr0, Z1, Z2, Z3, eA, _, r1, r2, ⟨y0, y1, y2, y3, y4⟩, hN⟩ := (HW.out.to hbw).at (i := cc) (j := n) hcn (Nat.lt_succ_self n) rfl
        injection eA with eA; injection eA with eA1 eA2; subst eA1 eA2
        rw [Nat.zero_add] at r1
        obtain ⟨x0, hx⟩ : ∃ x, x = g cc n := ⟨_, rfl⟩
        rw [← hx] at y0 y1 y2 y3 y4 hN
        have i1 : (0 : Int) ≤ (cc : Int) := by omega
        have i2 : (cc : Int) < (n : Int) := by omega
        have i3 : (0 : Int) ≤ (n : Int) := by omega
        have i4 : (n : Int) < ((n + 1 : Nat) : Int) := by omega
        have hlO := Nat.lt_of_lt_of_le hgO hbw.size
        have HX := Lib.hid hx
        have HEC := Lib.hid ec
        have HCC := Lib.hid hcc
        clear hx ec hcc
        go_upto_region 14 with fail
        obtain ⟨w6, hw6⟩ : ∃ X : World, X = wr.alloc (.cells #[.bool (sn (na x0)), .slice Z1 (ln (ab (na x0))) (ln (ab (na x0))), .bool (sn (nb x0)), .slice Z2 (ln (ab (nb x0))) (ln (ab (nb x0))), .slice Z3 (ln (un x0)) (ln (un x0))] 34) := ⟨_, rfl⟩
        have hv := hasP_new (T := 34) hN
        have hb6 : Below wr.heap.size wr (wr.alloc (.cells #[.bool (sn (na x0)), .slice Z1 (ln (ab (na x0))) (ln (ab (na x0))), .bool (sn (nb x0)), .slice Z2 (ln (ab (nb x0))) (ln (ab (nb x0))), .slice Z3 (ln (un x0)) (ln (un x0))] 34)) := (Below.refl _ _).alloc (Nat.le_refl _) _
        rw [← hw6] at hv hb6 ⊢
        obtain ⟨gs, hgs⟩ : ∃ x, x = wr.heap.size := ⟨_, rfl⟩
        rw [← hgs] at hv ⊢
        have HGS := Lib.hid (show wr.heap.size ≤ gs ∧ gX ≠ gs by omega)
        have HPX := Lib.hid hP
        have HBW := Lib.hid hbw
        obtain ⟨wb, hwb⟩ : ∃ X : World, X = wr := ⟨_, rfl⟩
        rw [← hwb] at hb6 HGS HPX HBW hlO hlx'
        have hv0 : HasP w6 gs (bsub g (back g n d) n cc 0) := by show HasP w6 gs (g cc n); rw [← HX.out]; exact hv
        clear hw6 hN y0 y1 y2 y3 y4 r1 r2 HX hgs hP hbw hv hwb
        go_loopw [12] (fun k (wr : World) => ∃ j : Nat, cc + 1 + j ≤ n ∧ k = .int .i64 ((cc + 1 + j : Nat) : Int) ∧ HasP wr gs (bsub g (back g n d) n cc j) ∧ Below wb.heap.size wb wr) (fun k _ => n - (intOf k).toNat)
        case atStart => exact ⟨0, by omega, by go_num, hv0, hb6⟩
        case round =>
          obtain ⟨j, hj, rfl, hvj, hbj⟩ := hrel
          clear hv0 hb6
          obtain ⟨kk, hkk⟩ : ∃ kk, kk = cc + 1 + j := ⟨_, rfl⟩
          rw [← hkk] at hj ⊢
          have hbw4 : Below w4.heap.size w4 wr := HBW.out.trans (hbj.mono HBW.out.size)
          have hxbd : xb BB d ≤ 2728 * BB + 11300 := Nat.le_trans (xb_mono BB d n hd) (xb_le hn)
          have hsb : ∀ j, cc + 1 + j ≤ n → sz (11000 * BB + 46000) (bsub g (back g n d) n cc j) := fun j hj => by
            refine (sz_bsub (d := d) hcn (fun k hk => HSZ.out cc k hcn hk) (fun k hk hk2 => sz_back hn HBD.out.2 (fun i k hi hk => HSZ.out i k hi hk) HDG.out d hd k (by have := HCC.out; omega) hk2) j hj).mono ?_
            have h4 : j * (BB + xb BB d + 2) ≤ 4 * (BB + xb BB d + 2) := Nat.mul_le_mul_right _ (by omega)
            omega
          obtain ⟨S1, S2, S3, hsc, hsn⟩ := hvj.slot
          have hls := hvj.1
          have hlO2 := Nat.lt_of_lt_of_le hlO hbj.size
          have hbd := HBD.out.1
          obtain ⟨sv, hsv⟩ : ∃ x, x = bsub g (back g n d) n cc j := ⟨_, rfl⟩
          have zs := hsb j (by omega)
          rw [← hsv] at hvj hsc hsn zs
          by_cases hkn : kk < n
          · obtain ⟨b, fo, gr, kr, A1, A2, A3, eA, _, r1, r2, hcs, hN⟩ := (HW.out.to hbw4).at (i := cc) (j := kk) hcn (show kk < n + 1 by omega) rfl
            injection eA with eA; injection eA with eA1 eA2; subst eA1 eA2
            rw [Nat.zero_add] at r1
            obtain ⟨B1, B2, B3, hds, hM⟩ := (HPX.out.to hbj).2 kk hkn (by have := HCC.out; omega)
            have hlX2 := Nat.lt_of_lt_of_le hlx' hbj.size
            obtain ⟨x, hx⟩ : ∃ x, x = g cc kk := ⟨_, rfl⟩
            obtain ⟨y, hy⟩ : ∃ y, y = back g n d kk := ⟨_, rfl⟩
            rw [← hx] at hcs hN
            rw [← hy] at hds hM
            have zx : sz BB x := by rw [hx]; exact HSZ.out cc kk hcn (by omega)
            have zy : sz (xb BB d) y := by rw [hy]; exact sz_back hn HBD.out.2 (fun i k hi hk => HSZ.out i k hi hk) HDG.out d hd kk (by have := HCC.out; omega) hkn
            have zm := sz_mul2 zx zy
            have hnew : sv.sub (x.mul y) = bsub g (back g n d) n cc (j + 1) := by rw [hsv, hx, hy, hkk]; rfl
            have HNEW := Lib.hid hnew
            have ZZ := Lib.hid (And.intro (zs.mono (show _ ≤ 137438953472 by omega)) (And.intro (zx.mono (show _ ≤ 137438953472 by omega)) (And.intro (zy.mono (show _ ≤ 137438953472 by omega)) (zm.mono (show _ ≤ 137438953472 by omega)))))
            have HBJ := Lib.hid hbj
            have HKK := Lib.hid hkk
            have i1 : (0 : Int) ≤ (cc : Int) := by omega
            have i2 : (cc : Int) < (n : Int) := by omega
            have i3 : (0 : Int) ≤ (kk : Int) := by omega
            have i4 : (kk : Int) < (n : Int) := by omega
            have i5 : (kk : Int) < (n : Int) + 1 := by omega
            clear hx hy zx zy zm zs hsv hnew hbj hkk hbw4 hxbd hsb hbd hj
            go_upto_region 16 with fail
            refine wp_region_any (by kernel_rfl) ?_
            refine wpAny_inv (fun l a' w' => ∃ V : Nat → Value, ∃ x14 x15 : Value, a' = ⟨List.toArray (.slice (some ⟨gO, 0, none⟩) n n :: .slice B n cb :: undef :: undef :: .slice none 0 0 :: .int .i64 0 :: .int .i64 ↑n :: .int .i64 ↑s :: .int .i64 (-1) :: .slice (some ⟨gX, 0, none⟩) n n :: .int .i64 ↑cc :: .pointer (some ⟨gs, 0, none⟩) :: .int .i64 ↑kk :: .slice A n c :: .bool true :: .bool false :: .bool false :: .slice B n cb :: .int .i64 ↑n :: .slice A n c :: .int .i64 ↑n :: .bool false :: .bool false :: .slice A n c :: .int .i64 ↑n :: .slice A n c :: .slice B n cb :: .slice (some ⟨gV, 0, none⟩) 1 1 :: .slice (some ⟨gO, 0, none⟩) n n :: .tuple #[.int .i64 ↑s, .int .i64 (-1)] :: .slice (some ⟨gO, 0, none⟩) n n :: .tuple #[.int .i64 ↑s, .int .i64 (-1)] :: .int .i64 ↑s :: .int .i64 (-1) :: .int .i64 (-1) :: .bool false :: .int .i64 ↑n :: .slice (some ⟨gX, 0, none⟩) n n :: .int .i64 ↑n :: .int .i64 (↑n - 1) :: .int .i64 ↑cc :: .bool true :: u42 :: u43 :: .slice (some ⟨gO, 0, none⟩) n n :: .int .i64 ↑cc :: .pointer (some ⟨gO, cc, none⟩) :: .slice (some ⟨gr0, 0, none⟩) (n + 1) kr0 :: .int .i64 ↑n :: .pointer (some { block := gr0, off := n * 5 }) :: .agg #[.bool (sn (na x0)), .slice Z1 (ln (ab (na x0))) (ln (ab (na x0))), .bool (sn (nb x0)), .slice Z2 (ln (ab (nb x0))) (ln (ab (nb x0))), .slice Z3 (ln (un x0)) (ln (un x0))] :: .int .i64 ↑cc :: .int .i64 (↑cc + 1) :: .int .i64 ↑kk :: .int .i64 ↑n :: .bool true :: u56 :: u57 :: V 0 :: V 1 :: V 2 :: V 3 :: V 4 :: V 5 :: V 6 :: V 7 :: V 8 :: V 9 :: V 10 :: V 11 :: V 12 :: V 13 :: x14 :: x15 :: u74 :: u75 :: u76 :: u77 :: u78 :: u79 :: u80 :: u81 :: u82 :: u83 :: u84 :: u85 :: u86 :: u87 :: u88 :: u89 :: undef :: []), []⟩ ∧ OnFix l V (fun zz => List.getD [.agg #[.bool (sn (na sv)), .slice S1 (ln (ab (na sv))) (ln (ab (na sv))), .bool (sn (nb sv)), .slice S2 (ln (ab (nb sv))) (ln (ab (nb sv))), .slice S3 (ln (un sv)) (ln (un sv))], .iface 34 (.agg #[.bool (sn (na sv)), .slice S1 (ln (ab (na sv))) (ln (ab (na sv))), .bool (sn (nb sv)), .slice S2 (ln (ab (nb sv))) (ln (ab (nb sv))), .slice S3 (ln (un sv)) (ln (un sv))]), .slice (some ⟨gO, 0, none⟩) n n, .int .i64 cc, .pointer (some ⟨gO, cc, none⟩), .slice (some ⟨gr, 0, none⟩) (n + 1) kr, .int .i64 kk, .pointer (some ⟨gr, kk * 5, none⟩), .agg #[.bool (sn (na x)), .slice A1 (ln (ab (na x))) (ln (ab (na x))), .bool (sn (nb x)), .slice A2 (ln (ab (nb x))) (ln (ab (nb x))), .slice A3 (ln (un x)) (ln (un x))], .iface 34 (.agg #[.bool (sn (na x)), .slice A1 (ln (ab (na x))) (ln (ab (na x))), .bool (sn (nb x)), .slice A2 (ln (ab (nb x))) (ln (ab (nb x))), .slice A3 (ln (un x)) (ln (un x))]), .slice (some ⟨gX, 0, none⟩) n n, .int .i64 kk, .pointer (some ⟨gX, kk * 5, none⟩), .agg #[.bool (sn (na y)), .slice B1 (ln (ab (na y))) (ln (ab (na y))), .bool (sn (nb y)), .slice B2 (ln (ab (nb y))) (ln (ab (nb y))), .slice B3 (ln (un y)) (ln (un y))], undef, undef, undef] zz undef) [0, 1, 2, 3, 4, 5, 6, 7, 8, 9, 10, 11, 12, 13] ∧ Off l 16 (Below wr.heap.size wr w' ∧ On l 14 (SlotNum w' x14 (x.mul y)) ∧ On l 15 (SlotNum w' x15 (sv.sub (x.mul y)))) ∧ On l 16 (HasP w' gs (sv.sub (x.mul y)) ∧ Below wb.heap.size wb w') ∧ Edg l [(16, 15), (15, 1), (1, 0), (15, 14), (14, 9), (9, 8), (8, 7), (7, 5), (14, 13)] ∧ l.size = 17) ?_ ?_ _ _ _ _ (by decide) ?_
            · intro l a' W' i hi hI
              obtain ⟨V, x14, x15, rfl, hv, hZ, hM0, hE, hz⟩ := hI
              obtain ⟨hlt, hoff, hpre⟩ := ready_pre hi
              have hc : i ∈ [0, 1, 2, 3, 4, 5, 6, 7, 8, 9, 10, 11, 12, 13, 14, 15, 16] := (by decide : ∀ i, i < 17 → i ∈ [0, 1, 2, 3, 4, 5, 6, 7, 8, 9, 10, 11, 12, 13, 14, 15, 16]) i hlt
              simp only [List.mem_cons, List.not_mem_nil, or_false] at hc
              clear hi hlt
              rcases hc with rfl | rfl | rfl | rfl | rfl | rfl | rfl | rfl | rfl | rfl | rfl | rfl | rfl | rfl | rfl | rfl | rfl <;> (have hp := hpre _ rfl; simp [Region.binds] at hp; clear hpre)
              · skip
                have HV := Lib.hid hv
                clear hv
                have hY := hZ.get (fun h => off hoff (hE.get 1 0 (by decide) (hE.get 15 1 (by decide) (hE.get 16 15 (by decide) h))))
                obtain ⟨z0, z1, z2, z3, z4⟩ := hsc
                have y0 := keepc hY.1 z0 hls; have y1 := keepc hY.1 z1 hls; have y2 := keepc hY.1 z2 hls; have y3 := keepc hY.1 z3 hls; have y4 := keepc hY.1 z4 hls
                refine wpOp_go rfl rfl (fun K hK => ?_)
                go_simp
                refine hK _ _ ?_
                exact ⟨_, _, _, rfl, HV.out.new (x := .agg #[.bool (sn (na sv)), .slice S1 (ln (ab (na sv))) (ln (ab (na sv))), .bool (sn (nb sv)), .slice S2 (ln (ab (nb sv))) (ln (ab (nb sv))), .slice S3 (ln (un sv)) (ln (un sv))]) rfl, hZ.keep.map (fun ⟨hb0, y14, y15⟩ => ⟨hb0, y14.keep (by decide), y15.keep (by decide)⟩), hM0.keep (by decide), hE.mono (by decide), by simp [hz]⟩
              · skip
                have e0 : V 0 = .agg #[.bool (sn (na sv)), .slice S1 (ln (ab (na sv))) (ln (ab (na sv))), .bool (sn (nb sv)), .slice S2 (ln (ab (nb sv))) (ln (ab (nb sv))), .slice S3 (ln (un sv)) (ln (un sv))] := hv.get 0 (by decide) (by simp [hp])
                have HV := Lib.hid (hv.fixE e0 rfl)
                clear hv
                simp only [e0]
                refine wpOp_go rfl rfl (fun K hK => ?_)
                go_simp
                refine hK _ _ ?_
                exact ⟨_, _, _, rfl, HV.out.new (x := .iface 34 (.agg #[.bool (sn (na sv)), .slice S1 (ln (ab (na sv))) (ln (ab (na sv))), .bool (sn (nb sv)), .slice S2 (ln (ab (nb sv))) (ln (ab (nb sv))), .slice S3 (ln (un sv)) (ln (un sv))])) rfl, hZ.keep.map (fun ⟨hb0, y14, y15⟩ => ⟨hb0, y14.keep (by decide), y15.keep (by decide)⟩), hM0.keep (by decide), hE.step (by simp [hp]), by simp [hz]⟩
              · skip
                have HV := Lib.hid hv
                clear hv
                refine wpOp_go rfl rfl (fun K hK => ?_)
                go_simp
                refine hK _ _ ?_
                exact ⟨_, _, _, rfl, HV.out.new (x := .slice (some ⟨gO, 0, none⟩) n n) rfl, hZ.keep.map (fun ⟨hb0, y14, y15⟩ => ⟨hb0, y14.keep (by decide), y15.keep (by decide)⟩), hM0.keep (by decide), hE.mono (by decide), by simp [hz]⟩
              · skip
                have HV := Lib.hid hv
                clear hv
                refine wpOp_go rfl rfl (fun K hK => ?_)
                go_simp
                refine hK _ _ ?_
                exact ⟨_, _, _, rfl, HV.out.new (x := .int .i64 cc) rfl, hZ.keep.map (fun ⟨hb0, y14, y15⟩ => ⟨hb0, y14.keep (by decide), y15.keep (by decide)⟩), hM0.keep (by decide), hE.mono (by decide), by simp [hz]⟩
              · skip
                have e2 : V 2 = .slice (some ⟨gO, 0, none⟩) n n := hv.get 2 (by decide) (by simp [hp])
                have e3 : V 3 = .int .i64 cc := hv.get 3 (by decide) (by simp [hp])
                have HV := Lib.hid ((hv.fixE e2 rfl).fixE e3 rfl)
                clear hv
                simp only [e2, e3]
                refine wpOp_go rfl rfl (fun K hK => ?_)
                go_simp
                refine hK _ _ ?_
                exact ⟨_, _, _, rfl, HV.out.new (x := .pointer (some ⟨gO, cc, none⟩)) rfl, hZ.keep.map (fun ⟨hb0, y14, y15⟩ => ⟨hb0, y14.keep (by decide), y15.keep (by decide)⟩), hM0.keep (by decide), hE.mono (by decide), by simp [hz]⟩
              · skip
                have e4 : V 4 = .pointer (some ⟨gO, cc, none⟩) := hv.get 4 (by decide) (by simp [hp])
                have HV := Lib.hid (hv.fixE e4 rfl)
                clear hv
                simp only [e4]
                have hY := hZ.get (fun h => off hoff (hE.get 7 5 (by decide) (hE.get 8 7 (by decide) (hE.get 9 8 (by decide) (hE.get 14 9 (by decide) (hE.get 15 14 (by decide) (hE.get 16 15 (by decide) h)))))))
                have z := keepc hY.1 r1 hlO2
                refine wpOp_go rfl rfl (fun K hK => ?_)
                go_simp
                refine hK _ _ ?_
                exact ⟨_, _, _, rfl, HV.out.new (x := .slice (some ⟨gr, 0, none⟩) (n + 1) kr) rfl, hZ.keep.map (fun ⟨hb0, y14, y15⟩ => ⟨hb0, y14.keep (by decide), y15.keep (by decide)⟩), hM0.keep (by decide), hE.mono (by decide), by simp [hz]⟩
              · skip
                have HV := Lib.hid hv
                clear hv
                refine wpOp_go rfl rfl (fun K hK => ?_)
                go_simp
                refine hK _ _ ?_
                exact ⟨_, _, _, rfl, HV.out.new (x := .int .i64 kk) rfl, hZ.keep.map (fun ⟨hb0, y14, y15⟩ => ⟨hb0, y14.keep (by decide), y15.keep (by decide)⟩), hM0.keep (by decide), hE.mono (by decide), by simp [hz]⟩
              · skip
                have e5 : V 5 = .slice (some ⟨gr, 0, none⟩) (n + 1) kr := hv.get 5 (by decide) (by simp [hp])
                have e6 : V 6 = .int .i64 kk := hv.get 6 (by decide) (by simp [hp])
                have HV := Lib.hid ((hv.fixE e5 rfl).fixE e6 rfl)
                clear hv
                simp only [e5, e6]
                refine wpOp_go rfl rfl (fun K hK => ?_)
                go_simp
                refine hK _ _ ?_
                exact ⟨_, _, _, rfl, HV.out.new (x := .pointer (some ⟨gr, kk * 5, none⟩)) rfl, hZ.keep.map (fun ⟨hb0, y14, y15⟩ => ⟨hb0, y14.keep (by decide), y15.keep (by decide)⟩), hM0.keep (by decide), hE.step (by simp [hp]), by simp [hz]⟩
              · skip
                have e7 : V 7 = .pointer (some ⟨gr, kk * 5, none⟩) := hv.get 7 (by decide) (by simp [hp])
                have HV := Lib.hid (hv.fixE e7 rfl)
                clear hv
                simp only [e7]
                have hY := hZ.get (fun h => off hoff (hE.get 9 8 (by decide) (hE.get 14 9 (by decide) (hE.get 15 14 (by decide) (hE.get 16 15 (by decide) h)))))
                obtain ⟨z0, z1, z2, z3, z4⟩ := hcs
                have y0 := keepc hY.1 z0 r2; have y1 := keepc hY.1 z1 r2; have y2 := keepc hY.1 z2 r2; have y3 := keepc hY.1 z3 r2; have y4 := keepc hY.1 z4 r2
                refine wpOp_go rfl rfl (fun K hK => ?_)
                go_simp
                refine hK _ _ ?_
                exact ⟨_, _, _, rfl, HV.out.new (x := .agg #[.bool (sn (na x)), .slice A1 (ln (ab (na x))) (ln (ab (na x))), .bool (sn (nb x)), .slice A2 (ln (ab (nb x))) (ln (ab (nb x))), .slice A3 (ln (un x)) (ln (un x))]) rfl, hZ.keep.map (fun ⟨hb0, y14, y15⟩ => ⟨hb0, y14.keep (by decide), y15.keep (by decide)⟩), hM0.keep (by decide), hE.step (by simp [hp]), by simp [hz]⟩
              · skip
                have e8 : V 8 = .agg #[.bool (sn (na x)), .slice A1 (ln (ab (na x))) (ln (ab (na x))), .bool (sn (nb x)), .slice A2 (ln (ab (nb x))) (ln (ab (nb x))), .slice A3 (ln (un x)) (ln (un x))] := hv.get 8 (by decide) (by simp [hp])
                have HV := Lib.hid (hv.fixE e8 rfl)
                clear hv
                simp only [e8]
                refine wpOp_go rfl rfl (fun K hK => ?_)
                go_simp
                refine hK _ _ ?_
                exact ⟨_, _, _, rfl, HV.out.new (x := .iface 34 (.agg #[.bool (sn (na x)), .slice A1 (ln (ab (na x))) (ln (ab (na x))), .bool (sn (nb x)), .slice A2 (ln (ab (nb x))) (ln (ab (nb x))), .slice A3 (ln (un x)) (ln (un x))])) rfl, hZ.keep.map (fun ⟨hb0, y14, y15⟩ => ⟨hb0, y14.keep (by decide), y15.keep (by decide)⟩), hM0.keep (by decide), hE.step (by simp [hp]), by simp [hz]⟩
              · skip
                have HV := Lib.hid hv
                clear hv
                refine wpOp_go rfl rfl (fun K hK => ?_)
                go_simp
                refine hK _ _ ?_
                exact ⟨_, _, _, rfl, HV.out.new (x := .slice (some ⟨gX, 0, none⟩) n n) rfl, hZ.keep.map (fun ⟨hb0, y14, y15⟩ => ⟨hb0, y14.keep (by decide), y15.keep (by decide)⟩), hM0.keep (by decide), hE.mono (by decide), by simp [hz]⟩
              · skip
                have HV := Lib.hid hv
                clear hv
                refine wpOp_go rfl rfl (fun K hK => ?_)
                go_simp
                refine hK _ _ ?_
                exact ⟨_, _, _, rfl, HV.out.new (x := .int .i64 kk) rfl, hZ.keep.map (fun ⟨hb0, y14, y15⟩ => ⟨hb0, y14.keep (by decide), y15.keep (by decide)⟩), hM0.keep (by decide), hE.mono (by decide), by simp [hz]⟩
              · skip
                have e10 : V 10 = .slice (some ⟨gX, 0, none⟩) n n := hv.get 10 (by decide) (by simp [hp])
                have e11 : V 11 = .int .i64 kk := hv.get 11 (by decide) (by simp [hp])
                have HV := Lib.hid ((hv.fixE e10 rfl).fixE e11 rfl)
                clear hv
                simp only [e10, e11]
                refine wpOp_go rfl rfl (fun K hK => ?_)
                go_simp
                refine hK _ _ ?_
                exact ⟨_, _, _, rfl, HV.out.new (x := .pointer (some ⟨gX, kk * 5, none⟩)) rfl, hZ.keep.map (fun ⟨hb0, y14, y15⟩ => ⟨hb0, y14.keep (by decide), y15.keep (by decide)⟩), hM0.keep (by decide), hE.mono (by decide), by simp [hz]⟩
              · skip
                have e12 : V 12 = .pointer (some ⟨gX, kk * 5, none⟩) := hv.get 12 (by decide) (by simp [hp])
                have HV := Lib.hid (hv.fixE e12 rfl)
                clear hv
                simp only [e12]
                have hY := hZ.get (fun h => off hoff (hE.get 14 13 (by decide) (hE.get 15 14 (by decide) (hE.get 16 15 (by decide) h))))
                obtain ⟨z0, z1, z2, z3, z4⟩ := hds
                have y0 := keepc hY.1 z0 hlX2; have y1 := keepc hY.1 z1 hlX2; have y2 := keepc hY.1 z2 hlX2; have y3 := keepc hY.1 z3 hlX2; have y4 := keepc hY.1 z4 hlX2
                refine wpOp_go rfl rfl (fun K hK => ?_)
                go_simp
                refine hK _ _ ?_
                exact ⟨_, _, _, rfl, HV.out.new (x := .agg #[.bool (sn (na y)), .slice B1 (ln (ab (na y))) (ln (ab (na y))), .bool (sn (nb y)), .slice B2 (ln (ab (nb y))) (ln (ab (nb y))), .slice B3 (ln (un y)) (ln (un y))]) rfl, hZ.keep.map (fun ⟨hb0, y14, y15⟩ => ⟨hb0, y14.keep (by decide), y15.keep (by decide)⟩), hM0.keep (by decide), hE.mono (by decide), by simp [hz]⟩
              · skip
                have e9 : V 9 = .iface 34 (.agg #[.bool (sn (na x)), .slice A1 (ln (ab (na x))) (ln (ab (na x))), .bool (sn (nb x)), .slice A2 (ln (ab (nb x))) (ln (ab (nb x))), .slice A3 (ln (un x)) (ln (un x))]) := hv.get 9 (by decide) (by simp [hp])
                have e13 : V 13 = .agg #[.bool (sn (na y)), .slice B1 (ln (ab (na y))) (ln (ab (na y))), .bool (sn (nb y)), .slice B2 (ln (ab (nb y))) (ln (ab (nb y))), .slice B3 (ln (un y)) (ln (un y))] := hv.get 13 (by decide) (by simp [hp])
                have HV := Lib.hid ((hv.fixE e9 rfl).fixE e13 rfl)
                clear hv
                simp only [e9, e13]
                have hY := hZ.get (fun h => off hoff (hE.get 15 14 (by decide) (hE.get 16 15 (by decide) h)))
                refine wpOp_go rfl rfl (fun K hK => ?_)
                go_wp2_with (first | (go_at_call 10; refine (mul_num x y A1 A2 A3 B1 B2 B3 _ (hN.to hY.1) (hM.to hY.1) ZZ.out.2.1 ZZ.out.2.2.1).mono ?_; rintro e wf ⟨E1, E2, E3, rfl, hNN, hb⟩))
                try refine hK _ _ ?_
                exact ⟨_, _, _, rfl, HV.out.other (by decide), Off.new ⟨hY.1.trans (hb.mono hY.1.size), On.new (⟨E1, E2, E3, rfl, hNN⟩), ((hY.2.2).keep (by decide)).map (fun h => h.to hb)⟩, fun h => absurd (hE.get 15 14 (by decide) (hE.get 16 15 (by decide) (on_ne h (by decide)))) (off hoff), hE.step (by simp [hp]), by simp [hz]⟩
              · skip
                have e1 : V 1 = .iface 34 (.agg #[.bool (sn (na sv)), .slice S1 (ln (ab (na sv))) (ln (ab (na sv))), .bool (sn (nb sv)), .slice S2 (ln (ab (nb sv))) (ln (ab (nb sv))), .slice S3 (ln (un sv)) (ln (un sv))]) := hv.get 1 (by decide) (by simp [hp])
                have HV := Lib.hid (hv.fixE e1 rfl)
                clear hv
                simp only [e1]
                have hY := hZ.get (fun h => off hoff (hE.get 16 15 (by decide) h))
                obtain ⟨G1, G2, G3, e0, hMM⟩ := hY.2.1.get (by simp [hp])
                subst e0
                refine wpOp_go rfl rfl (fun K hK => ?_)
                go_wp2_with (first | (go_at_call 47; refine (sub_num sv (x.mul y) S1 S2 S3 G1 G2 G3 _ (hsn.to hY.1) hMM ZZ.out.1 ZZ.out.2.2.2).mono ?_; rintro e wf ⟨E1, E2, E3, rfl, hNN, hb⟩))
                try refine hK _ _ ?_
                exact ⟨_, _, _, rfl, HV.out.other (by decide), Off.new ⟨hY.1.trans (hb.mono hY.1.size), ((hY.2.1).keep (by decide)).map (fun h => h.to hb), On.new (⟨E1, E2, E3, rfl, hNN⟩)⟩, fun h => absurd (hE.get 16 15 (by decide) (on_ne h (by decide))) (off hoff), hE.step (by simp [hp]), by simp [hz]⟩
              · skip
                have HV := Lib.hid hv
                clear hv
                have hY := hZ.get (off hoff)
                obtain ⟨E1, E2, E3, e1, hNN⟩ := hY.2.2.get (by simp [hp])
                subst e1
                have hv6 := (hvj.to hY.1).var
                have hv5 := hv6
                obtain ⟨_, ⟨cb2, u1, u2, u3, u4, d0, d1, d2, d3, d4⟩, ⟨f0, f1, f2, f3, f4⟩⟩ := hv5
                refine wpOp_go rfl rfl (fun K hK => ?_)
                go_simp
                refine hK _ _ ?_
                obtain ⟨XX, hX⟩ : ∃ XX : World, XX = set5 W' gs (sv.sub (x.mul y)) E1 E2 E3 := ⟨_, rfl⟩
                have hw : set5 W' gs (sv.sub (x.mul y)) E1 E2 E3 = XX := hX.symm
                unfold set5 at hw
                rw [hw]
                subst hX
                exact ⟨_, _, _, rfl, HV.out.other (by decide), Off.done (by omega), On.new (⟨hv6.putP hNN, set5_below (HBJ.out.trans (hY.1.mono HBJ.out.size)) HGS.out.1⟩), hE.step (by simp [hp]), by simp [hz]⟩
            · intro l a' W' hr hI
              obtain ⟨V, x14, x15, rfl, hv, hZ, hM0, hE, hz⟩ := hI
              have a0 := not_ready (i := 0) hr hz rfl (by simp [Region.binds])
              have a1 := not_ready (i := 1) hr hz rfl (by simp [Region.binds, a0])
              have a2 := not_ready (i := 2) hr hz rfl (by simp [Region.binds, a0, a1])
              have a3 := not_ready (i := 3) hr hz rfl (by simp [Region.binds, a0, a1, a2])
              have a4 := not_ready (i := 4) hr hz rfl (by simp [Region.binds, a0, a1, a2, a3])
              have a5 := not_ready (i := 5) hr hz rfl (by simp [Region.binds, a0, a1, a2, a3, a4])
              have a6 := not_ready (i := 6) hr hz rfl (by simp [Region.binds, a0, a1, a2, a3, a4, a5])
              have a7 := not_ready (i := 7) hr hz rfl (by simp [Region.binds, a0, a1, a2, a3, a4, a5, a6])
              have a8 := not_ready (i := 8) hr hz rfl (by simp [Region.binds, a0, a1, a2, a3, a4, a5, a6, a7])
              have a9 := not_ready (i := 9) hr hz rfl (by simp [Region.binds, a0, a1, a2, a3, a4, a5, a6, a7, a8])
              have a10 := not_ready (i := 10) hr hz rfl (by simp [Region.binds, a0, a1, a2, a3, a4, a5, a6, a7, a8, a9])
              have a11 := not_ready (i := 11) hr hz rfl (by simp [Region.binds, a0, a1, a2, a3, a4, a5, a6, a7, a8, a9, a10])
              have a12 := not_ready (i := 12) hr hz rfl (by simp [Region.binds, a0, a1, a2, a3, a4, a5, a6, a7, a8, a9, a10, a11])
              have a13 := not_ready (i := 13) hr hz rfl (by simp [Region.binds, a0, a1, a2, a3, a4, a5, a6, a7, a8, a9, a10, a11, a12])
              have a14 := not_ready (i := 14) hr hz rfl (by simp [Region.binds, a0, a1, a2, a3, a4, a5, a6, a7, a8, a9, a10, a11, a12, a13])
              have a15 := not_ready (i := 15) hr hz rfl (by simp [Region.binds, a0, a1, a2, a3, a4, a5, a6, a7, a8, a9, a10, a11, a12, a13, a14])
              have a16 := not_ready (i := 16) hr hz rfl (by simp [Region.binds, a0, a1, a2, a3, a4, a5, a6, a7, a8, a9, a10, a11, a12, a13, a14, a15])
              have hY := hM0.get a16
              clear hr hz hv hZ a0 a1 a2 a3 a4 a5 a6 a7 a8 a9 a10 a11 a12 a13 a14 a15 a16 hM0 hE
              go_wp2_with fail
              go_roundw
              case rel => exact ⟨j + 1, by have := HKK.out; omega, by rw [show cc + 1 + (j + 1) = kk + 1 by rw [HKK.out]; rfl]; go_num, by rw [← HNEW.out]; exact hY.1, hY.2⟩
              case measure => simp [intOf]; omega
            · exact ⟨fun zz => List.getD [u58, u59, u60, u61, u62, u63, u64, u65, u66, u67, u68, u69, u70, u71, u72, u73, undef] zz undef, _, _, rfl, OnFix.start, Off.new ⟨((Below.refl _ _).drew), fun h => absurd h (by decide), fun h => absurd h (by decide)⟩, fun h => absurd h (by decide), Edg.start, by simp⟩
          · have hkn2 : kk = n := by omega
            obtain ⟨b, fo, gr, kr, A1, A2, A3, eA, _, r1, r2, hcs, hN⟩ := (HW.out.to hbw4).at (i := cc) (j := cc) hcn (show cc < n + 1 by omega) rfl
            injection eA with eA; injection eA with eA1 eA2; subst eA1 eA2
            rw [Nat.zero_add] at r1
            obtain ⟨hlX2, hput⟩ := (HPX.out.to hbj).put hdn
            rw [← HCC.out] at hput
            obtain ⟨y, hy⟩ : ∃ y, y = g cc cc := ⟨_, rfl⟩
            rw [← hy] at hcs hN
            have hjd : j = d := by have := HCC.out; omega
            have hnew : back g n (d + 1) cc = sv.div y := by
              show (if cc = n - 1 - d then _ else _) = _
              rw [if_pos HCC.out, hsv, hy, hjd]
            have hold : ∀ i, i < n → n - d ≤ i → back g n (d + 1) i = back g n d i := fun i hi hid => by
              show (if i = n - 1 - d then _ else _) = _
              rw [if_neg (by omega)]
            have zy : sz BB y := by rw [hy]; exact HSZ.out cc cc hcn (by omega)
            have hy0 : y ≠ Cx.zero := by rw [hy]; exact HDG.out cc hcn
            have HNEW := Lib.hid (And.intro hnew hold)
            have ZZ := Lib.hid (And.intro (zs.mono (show _ ≤ 137438953472 by omega)) (And.intro (zy.mono (show _ ≤ 137438953472 by omega)) hy0))
            have HB4 := Lib.hid hbw4
            have i1 : (0 : Int) ≤ (cc : Int) := by omega
            have i2 : (cc : Int) < (n : Int) := by omega
            have i5 : (cc : Int) < (n : Int) + 1 := by omega
            clear hy zy hy0 zs hsv hnew hold hbj hkk hbw4 hxbd hsb hbd hjd hj hkn2
            go_upto_region 17 with fail
            refine wp_region_any (by kernel_rfl) ?_
            refine wpAny_inv (fun l a' w' => ∃ V2 : Nat → Value, ∃ x11 x12 x13 x14 : Value, a' = ⟨List.toArray (.slice (some ⟨gO, 0, none⟩) n n :: .slice B n cb :: undef :: undef :: .slice none 0 0 :: .int .i64 0 :: .int .i64 ↑n :: .int .i64 ↑s :: .int .i64 (-1) :: .slice (some ⟨gX, 0, none⟩) n n :: .int .i64 ↑cc :: .pointer (some ⟨gs, 0, none⟩) :: .int .i64 ↑kk :: .slice A n c :: .bool true :: .bool false :: .bool false :: .slice B n cb :: .int .i64 ↑n :: .slice A n c :: .int .i64 ↑n :: .bool false :: .bool false :: .slice A n c :: .int .i64 ↑n :: .slice A n c :: .slice B n cb :: .slice (some ⟨gV, 0, none⟩) 1 1 :: .slice (some ⟨gO, 0, none⟩) n n :: .tuple #[.int .i64 ↑s, .int .i64 (-1)] :: .slice (some ⟨gO, 0, none⟩) n n :: .tuple #[.int .i64 ↑s, .int .i64 (-1)] :: .int .i64 ↑s :: .int .i64 (-1) :: .int .i64 (-1) :: .bool false :: .int .i64 ↑n :: .slice (some ⟨gX, 0, none⟩) n n :: .int .i64 ↑n :: .int .i64 (↑n - 1) :: .int .i64 ↑cc :: .bool true :: u42 :: u43 :: .slice (some ⟨gO, 0, none⟩) n n :: .int .i64 ↑cc :: .pointer (some ⟨gO, cc, none⟩) :: .slice (some ⟨gr0, 0, none⟩) (n + 1) kr0 :: .int .i64 ↑n :: .pointer (some { block := gr0, off := n * 5 }) :: .agg #[.bool (sn (na x0)), .slice Z1 (ln (ab (na x0))) (ln (ab (na x0))), .bool (sn (nb x0)), .slice Z2 (ln (ab (nb x0))) (ln (ab (nb x0))), .slice Z3 (ln (un x0)) (ln (un x0))] :: .int .i64 ↑cc :: .int .i64 (↑cc + 1) :: .int .i64 ↑kk :: .int .i64 ↑n :: .bool false :: u56 :: u57 :: u58 :: u59 :: u60 :: u61 :: u62 :: u63 :: u64 :: u65 :: u66 :: u67 :: u68 :: u69 :: u70 :: u71 :: u72 :: u73 :: x12 :: V2 0 :: V2 1 :: V2 2 :: V2 3 :: V2 4 :: V2 5 :: V2 6 :: V2 7 :: V2 8 :: V2 9 :: V2 10 :: x11 :: x13 :: x14 :: V2 15 :: undef :: []), []⟩ ∧ OnFix l V2 (fun zz => List.getD [.slice (some ⟨gX, 0, none⟩) n n, .int .i64 cc, .agg #[.bool (sn (na sv)), .slice S1 (ln (ab (na sv))) (ln (ab (na sv))), .bool (sn (nb sv)), .slice S2 (ln (ab (nb sv))) (ln (ab (nb sv))), .slice S3 (ln (un sv)) (ln (un sv))], .iface 34 (.agg #[.bool (sn (na sv)), .slice S1 (ln (ab (na sv))) (ln (ab (na sv))), .bool (sn (nb sv)), .slice S2 (ln (ab (nb sv))) (ln (ab (nb sv))), .slice S3 (ln (un sv)) (ln (un sv))]), .slice (some ⟨gO, 0, none⟩) n n, .int .i64 cc, .pointer (some ⟨gO, cc, none⟩), .slice (some ⟨gr, 0, none⟩) (n + 1) kr, .int .i64 cc, .pointer (some ⟨gr, cc * 5, none⟩), .agg #[.bool (sn (na y)), .slice A1 (ln (ab (na y))) (ln (ab (na y))), .bool (sn (nb y)), .slice A2 (ln (ab (nb y))) (ln (ab (nb y))), .slice A3 (ln (un y)) (ln (un y))], undef, undef, undef, undef, .pointer (some ⟨gX, cc * 5, none⟩), undef] zz undef) [0, 1, 2, 3, 4, 5, 6, 7, 8, 9, 10, 15] ∧ Off l 16 (Below wr.heap.size wr w' ∧ On l 11 (SlotNumE w' x11 (sv.div y)) ∧ On l 12 (SlotNumE w' x12 (sv.div y)) ∧ On l 13 (SlotNum w' x13 (sv.div y))) ∧ On l 16 (PartX w' gX n (d + 1) (back g n (d + 1)) ∧ Below w4.heap.size w4 w' ∧ gX < w'.heap.size) ∧ On l 12 (∃ A, x12 = .tuple #[A, .int .i64 0]) ∧ Edg l [(16, 13), (13, 12), (12, 11), (11, 3), (3, 2), (11, 10), (10, 9), (9, 7)] ∧ l.size = 17) ?_ ?_ _ _ _ _ (by decide) ?_
            · intro l a' W' i hi hI
              obtain ⟨V2, x11, x12, x13, x14, rfl, hv, hZ, hM0, hP12, hE, hz⟩ := hI
              obtain ⟨hlt, hoff, hpre⟩ := ready_pre hi
              have hc : i ∈ [0, 1, 2, 3, 4, 5, 6, 7, 8, 9, 10, 11, 12, 13, 14, 15, 16] := (by decide : ∀ i, i < 17 → i ∈ [0, 1, 2, 3, 4, 5, 6, 7, 8, 9, 10, 11, 12, 13, 14, 15, 16]) i hlt
              simp only [List.mem_cons, List.not_mem_nil, or_false] at hc
              clear hi hlt
              rcases hc with rfl | rfl | rfl | rfl | rfl | rfl | rfl | rfl | rfl | rfl | rfl | rfl | rfl | rfl | rfl | rfl | rfl <;> (have hp := hpre _ rfl; simp [Region.binds] at hp; clear hpre)
              · skip
                have HV := Lib.hid hv
                clear hv
                refine wpOp_go rfl rfl (fun K hK => ?_)
                go_simp
                refine hK _ _ ?_
                exact ⟨_, _, _, _, _, rfl, HV.out.new (x := .slice (some ⟨gX, 0, none⟩) n n) rfl, hZ.keep.map (fun ⟨hb0, y11, y12, y13⟩ => ⟨hb0, y11.keep (by decide), y12.keep (by decide), y13.keep (by decide)⟩), hM0.keep (by decide), hP12.keep (j := 0) (by decide), hE.mono (by decide), by simp [hz]⟩
              · skip
                have HV := Lib.hid hv
                clear hv
                refine wpOp_go rfl rfl (fun K hK => ?_)
                go_simp
                refine hK _ _ ?_
                exact ⟨_, _, _, _, _, rfl, HV.out.new (x := .int .i64 cc) rfl, hZ.keep.map (fun ⟨hb0, y11, y12, y13⟩ => ⟨hb0, y11.keep (by decide), y12.keep (by decide), y13.keep (by decide)⟩), hM0.keep (by decide), hP12.keep (j := 1) (by decide), hE.mono (by decide), by simp [hz]⟩
              · skip
                have HV := Lib.hid hv
                clear hv
                have hY := hZ.get (fun h => off hoff (hE.get 3 2 (by decide) (hE.get 11 3 (by decide) (hE.get 12 11 (by decide) (hE.get 13 12 (by decide) (hE.get 16 13 (by decide) h))))))
                obtain ⟨z0, z1, z2, z3, z4⟩ := hsc
                have y0 := keepc hY.1 z0 hls; have y1 := keepc hY.1 z1 hls; have y2 := keepc hY.1 z2 hls; have y3 := keepc hY.1 z3 hls; have y4 := keepc hY.1 z4 hls
                refine wpOp_go rfl rfl (fun K hK => ?_)
                go_simp
                refine hK _ _ ?_
                exact ⟨_, _, _, _, _, rfl, HV.out.new (x := .agg #[.bool (sn (na sv)), .slice S1 (ln (ab (na sv))) (ln (ab (na sv))), .bool (sn (nb sv)), .slice S2 (ln (ab (nb sv))) (ln (ab (nb sv))), .slice S3 (ln (un sv)) (ln (un sv))]) rfl, hZ.keep.map (fun ⟨hb0, y11, y12, y13⟩ => ⟨hb0, y11.keep (by decide), y12.keep (by decide), y13.keep (by decide)⟩), hM0.keep (by decide), hP12.keep (j := 2) (by decide), hE.mono (by decide), by simp [hz]⟩
              · skip
                have e2 : V2 2 = .agg #[.bool (sn (na sv)), .slice S1 (ln (ab (na sv))) (ln (ab (na sv))), .bool (sn (nb sv)), .slice S2 (ln (ab (nb sv))) (ln (ab (nb sv))), .slice S3 (ln (un sv)) (ln (un sv))] := hv.get 2 (by decide) (by simp [hp])
                have HV := Lib.hid (hv.fixE e2 rfl)
                clear hv
                simp only [e2]
                refine wpOp_go rfl rfl (fun K hK => ?_)
                go_simp
                refine hK _ _ ?_
                exact ⟨_, _, _, _, _, rfl, HV.out.new (x := .iface 34 (.agg #[.bool (sn (na sv)), .slice S1 (ln (ab (na sv))) (ln (ab (na sv))), .bool (sn (nb sv)), .slice S2 (ln (ab (nb sv))) (ln (ab (nb sv))), .slice S3 (ln (un sv)) (ln (un sv))])) rfl, hZ.keep.map (fun ⟨hb0, y11, y12, y13⟩ => ⟨hb0, y11.keep (by decide), y12.keep (by decide), y13.keep (by decide)⟩), hM0.keep (by decide), hP12.keep (j := 3) (by decide), hE.step (by simp [hp]), by simp [hz]⟩
              · skip
                have HV := Lib.hid hv
                clear hv
                refine wpOp_go rfl rfl (fun K hK => ?_)
                go_simp
                refine hK _ _ ?_
                exact ⟨_, _, _, _, _, rfl, HV.out.new (x := .slice (some ⟨gO, 0, none⟩) n n) rfl, hZ.keep.map (fun ⟨hb0, y11, y12, y13⟩ => ⟨hb0, y11.keep (by decide), y12.keep (by decide), y13.keep (by decide)⟩), hM0.keep (by decide), hP12.keep (j := 4) (by decide), hE.mono (by decide), by simp [hz]⟩
              · skip
                have HV := Lib.hid hv
                clear hv
                refine wpOp_go rfl rfl (fun K hK => ?_)
                go_simp
                refine hK _ _ ?_
                exact ⟨_, _, _, _, _, rfl, HV.out.new (x := .int .i64 cc) rfl, hZ.keep.map (fun ⟨hb0, y11, y12, y13⟩ => ⟨hb0, y11.keep (by decide), y12.keep (by decide), y13.keep (by decide)⟩), hM0.keep (by decide), hP12.keep (j := 5) (by decide), hE.mono (by decide), by simp [hz]⟩
              · skip
                have e4 : V2 4 = .slice (some ⟨gO, 0, none⟩) n n := hv.get 4 (by decide) (by simp [hp])
                have e5 : V2 5 = .int .i64 cc := hv.get 5 (by decide) (by simp [hp])
                have HV := Lib.hid ((hv.fixE e4 rfl).fixE e5 rfl)
                clear hv
                simp only [e4, e5]
                refine wpOp_go rfl rfl (fun K hK => ?_)
                go_simp
                refine hK _ _ ?_
                exact ⟨_, _, _, _, _, rfl, HV.out.new (x := .pointer (some ⟨gO, cc, none⟩)) rfl, hZ.keep.map (fun ⟨hb0, y11, y12, y13⟩ => ⟨hb0, y11.keep (by decide), y12.keep (by decide), y13.keep (by decide)⟩), hM0.keep (by decide), hP12.keep (j := 6) (by decide), hE.mono (by decide), by simp [hz]⟩
              · skip
                have e6 : V2 6 = .pointer (some ⟨gO, cc, none⟩) := hv.get 6 (by decide) (by simp [hp])
                have HV := Lib.hid (hv.fixE e6 rfl)
                clear hv
                simp only [e6]
                have hY := hZ.get (fun h => off hoff (hE.get 9 7 (by decide) (hE.get 10 9 (by decide) (hE.get 11 10 (by decide) (hE.get 12 11 (by decide) (hE.get 13 12 (by decide) (hE.get 16 13 (by decide) h)))))))
                have z := keepc hY.1 r1 hlO2
                refine wpOp_go rfl rfl (fun K hK => ?_)
                go_simp
                refine hK _ _ ?_
                exact ⟨_, _, _, _, _, rfl, HV.out.new (x := .slice (some ⟨gr, 0, none⟩) (n + 1) kr) rfl, hZ.keep.map (fun ⟨hb0, y11, y12, y13⟩ => ⟨hb0, y11.keep (by decide), y12.keep (by decide), y13.keep (by decide)⟩), hM0.keep (by decide), hP12.keep (j := 7) (by decide), hE.mono (by decide), by simp [hz]⟩
              · skip
                have HV := Lib.hid hv
                clear hv
                refine wpOp_go rfl rfl (fun K hK => ?_)
                go_simp
                refine hK _ _ ?_
                exact ⟨_, _, _, _, _, rfl, HV.out.new (x := .int .i64 cc) rfl, hZ.keep.map (fun ⟨hb0, y11, y12, y13⟩ => ⟨hb0, y11.keep (by decide), y12.keep (by decide), y13.keep (by decide)⟩), hM0.keep (by decide), hP12.keep (j := 8) (by decide), hE.mono (by decide), by simp [hz]⟩
              · skip
                have e7 : V2 7 = .slice (some ⟨gr, 0, none⟩) (n + 1) kr := hv.get 7 (by decide) (by simp [hp])
                have e8 : V2 8 = .int .i64 cc := hv.get 8 (by decide) (by simp [hp])
                have HV := Lib.hid ((hv.fixE e7 rfl).fixE e8 rfl)
                clear hv
                simp only [e7, e8]
                refine wpOp_go rfl rfl (fun K hK => ?_)
                go_simp
                refine hK _ _ ?_
                exact ⟨_, _, _, _, _, rfl, HV.out.new (x := .pointer (some ⟨gr, cc * 5, none⟩)) rfl, hZ.keep.map (fun ⟨hb0, y11, y12, y13⟩ => ⟨hb0, y11.keep (by decide), y12.keep (by decide), y13.keep (by decide)⟩), hM0.keep (by decide), hP12.keep (j := 9) (by decide), hE.step (by simp [hp]), by simp [hz]⟩
              · skip
                have e9 : V2 9 = .pointer (some ⟨gr, cc * 5, none⟩) := hv.get 9 (by decide) (by simp [hp])
                have HV := Lib.hid (hv.fixE e9 rfl)
                clear hv
                simp only [e9]
                have hY := hZ.get (fun h => off hoff (hE.get 11 10 (by decide) (hE.get 12 11 (by decide) (hE.get 13 12 (by decide) (hE.get 16 13 (by decide) h)))))
                obtain ⟨z0, z1, z2, z3, z4⟩ := hcs
                have y0 := keepc hY.1 z0 r2; have y1 := keepc hY.1 z1 r2; have y2 := keepc hY.1 z2 r2; have y3 := keepc hY.1 z3 r2; have y4 := keepc hY.1 z4 r2
                refine wpOp_go rfl rfl (fun K hK => ?_)
                go_simp
                refine hK _ _ ?_
                exact ⟨_, _, _, _, _, rfl, HV.out.new (x := .agg #[.bool (sn (na y)), .slice A1 (ln (ab (na y))) (ln (ab (na y))), .bool (sn (nb y)), .slice A2 (ln (ab (nb y))) (ln (ab (nb y))), .slice A3 (ln (un y)) (ln (un y))]) rfl, hZ.keep.map (fun ⟨hb0, y11, y12, y13⟩ => ⟨hb0, y11.keep (by decide), y12.keep (by decide), y13.keep (by decide)⟩), hM0.keep (by decide), hP12.keep (j := 10) (by decide), hE.step (by simp [hp]), by simp [hz]⟩
              · skip
                have e3 : V2 3 = .iface 34 (.agg #[.bool (sn (na sv)), .slice S1 (ln (ab (na sv))) (ln (ab (na sv))), .bool (sn (nb sv)), .slice S2 (ln (ab (nb sv))) (ln (ab (nb sv))), .slice S3 (ln (un sv)) (ln (un sv))]) := hv.get 3 (by decide) (by simp [hp])
                have e10 : V2 10 = .agg #[.bool (sn (na y)), .slice A1 (ln (ab (na y))) (ln (ab (na y))), .bool (sn (nb y)), .slice A2 (ln (ab (nb y))) (ln (ab (nb y))), .slice A3 (ln (un y)) (ln (un y))] := hv.get 10 (by decide) (by simp [hp])
                have HV := Lib.hid ((hv.fixE e3 rfl).fixE e10 rfl)
                clear hv
                simp only [e3, e10]
                have hY := hZ.get (fun h => off hoff (hE.get 12 11 (by decide) (hE.get 13 12 (by decide) (hE.get 16 13 (by decide) h))))
                refine wpOp_go rfl rfl (fun K hK => ?_)
                go_wp2_with (first | (go_at_call 40; refine (div_num0 sv y S1 S2 S3 A1 A2 A3 _ (hsn.to hY.1) (hN.to hY.1) ZZ.out.1 ZZ.out.2.1 ZZ.out.2.2).mono ?_; rintro e wf ⟨E1, E2, E3, rfl, hNN, hb⟩))
                try refine hK _ _ ?_
                exact ⟨_, _, _, _, _, rfl, HV.out.other (by decide), Off.new ⟨hY.1.trans (hb.mono hY.1.size), On.new (⟨E1, E2, E3, rfl, hNN⟩), ((hY.2.2.1).keep (by decide)).map (fun h => h.to hb), ((hY.2.2.2).keep (by decide)).map (fun h => h.to hb)⟩, fun h => absurd (hE.get 12 11 (by decide) (hE.get 13 12 (by decide) (hE.get 16 13 (by decide) (on_ne h (by decide))))) (off hoff), hP12.keep (j := 11) (by decide), hE.step (by simp [hp]), by simp [hz]⟩
              · skip
                have HV := Lib.hid hv
                clear hv
                have hY := hZ.get (fun h => off hoff (hE.get 13 12 (by decide) (hE.get 16 13 (by decide) h)))
                obtain ⟨E1, E2, E3, e0, hNN⟩ := hY.2.1.get (by simp [hp])
                subst e0
                refine wpOp_go rfl rfl (fun K hK => ?_)
                go_simp
                refine hK _ _ ?_
                exact ⟨_, _, _, _, _, rfl, HV.out.other (by decide), Off.new ⟨hY.1, ((hY.2.1).keep (by decide)).map (fun h => h), On.new (⟨E1, E2, E3, rfl, hNN⟩), ((hY.2.2.2).keep (by decide)).map (fun h => h)⟩, fun h => absurd (hE.get 13 12 (by decide) (hE.get 16 13 (by decide) (on_ne h (by decide)))) (off hoff), On.new (⟨_, rfl⟩), hE.step (by simp [hp]), by simp [hz]⟩
              · skip
                have HV := Lib.hid hv
                clear hv
                have hY := hZ.get (fun h => off hoff (hE.get 16 13 (by decide) h))
                obtain ⟨E1, E2, E3, e0, hNN⟩ := hY.2.2.1.get (by simp [hp])
                subst e0
                refine wpOp_go rfl rfl (fun K hK => ?_)
                go_simp
                refine hK _ _ ?_
                exact ⟨_, _, _, _, _, rfl, HV.out.other (by decide), Off.new ⟨hY.1, ((hY.2.1).keep (by decide)).map (fun h => h), ((hY.2.2.1).keep (by decide)).map (fun h => h), On.new (⟨E1, E2, E3, rfl, hNN⟩)⟩, fun h => absurd (hE.get 16 13 (by decide) (on_ne h (by decide))) (off hoff), hP12.keep (j := 13) (by decide), hE.step (by simp [hp]), by simp [hz]⟩
              · skip
                have HV := Lib.hid hv
                clear hv
                obtain ⟨E0, e0⟩ := hP12.get (by simp [hp])
                subst e0
                refine wpOp_go rfl rfl (fun K hK => ?_)
                go_simp
                refine hK _ _ ?_
                exact ⟨_, _, _, _, _, rfl, HV.out.other (by decide), hZ.keep.map (fun ⟨hb0, y11, y12, y13⟩ => ⟨hb0, y11.keep (by decide), y12.keep (by decide), y13.keep (by decide)⟩), hM0.keep (by decide), hP12.keep (j := 14) (by decide), hE.mono (by decide), by simp [hz]⟩
              · skip
                have e0 : V2 0 = .slice (some ⟨gX, 0, none⟩) n n := hv.get 0 (by decide) (by simp [hp])
                have e1 : V2 1 = .int .i64 cc := hv.get 1 (by decide) (by simp [hp])
                have HV := Lib.hid ((hv.fixE e0 rfl).fixE e1 rfl)
                clear hv
                simp only [e0, e1]
                refine wpOp_go rfl rfl (fun K hK => ?_)
                go_simp
                refine hK _ _ ?_
                exact ⟨_, _, _, _, _, rfl, HV.out.new (x := .pointer (some ⟨gX, cc * 5, none⟩)) rfl, hZ.keep.map (fun ⟨hb0, y11, y12, y13⟩ => ⟨hb0, y11.keep (by decide), y12.keep (by decide), y13.keep (by decide)⟩), hM0.keep (by decide), hP12.keep (j := 15) (by decide), hE.mono (by decide), by simp [hz]⟩
              · skip
                have e15 : V2 15 = .pointer (some ⟨gX, cc * 5, none⟩) := hv.get 15 (by decide) (by simp [hp])
                have HV := Lib.hid (hv.fixE e15 rfl)
                clear hv
                simp only [e15]
                have hY := hZ.get (off hoff)
                obtain ⟨E1, E2, E3, e1, hNN⟩ := hY.2.2.2.get (by simp [hp])
                subst e1
                obtain ⟨⟨u0, u1, u2, u3, u4, d0, d1, d2, d3, d4⟩, ⟨f0, f1, f2, f3, f4⟩, hfin⟩ := hput W' hY.1
                refine wpOp_go rfl rfl (fun K hK => ?_)
                go_simp
                refine hK _ _ ?_
                obtain ⟨XX, hX⟩ : ∃ XX : World, XX = set5o W' gX (cc * 5) (sv.div y) E1 E2 E3 := ⟨_, rfl⟩
                have hw : set5o W' gX (cc * 5) (sv.div y) E1 E2 E3 = XX := hX.symm
                unfold set5o at hw
                rw [hw]
                subst hX
                exact ⟨_, _, _, _, _, rfl, HV.out.other (by decide), Off.done (by omega), On.new (⟨hfin _ _ E1 E2 E3 hNN HNEW.out.1 HNEW.out.2, set5o_below (HB4.out.trans (hY.1.mono HB4.out.size)) HGX.out, by rw [set5o_size]; exact Nat.lt_of_lt_of_le hlX2 hY.1.size⟩), hP12.keep (j := 16) (by decide), hE.step (by simp [hp]), by simp [hz]⟩
            · intro l a' W' hr hI
              obtain ⟨V2, x11, x12, x13, x14, rfl, hv, hZ, hM0, hP12, hE, hz⟩ := hI
              have a0 := not_ready (i := 0) hr hz rfl (by simp [Region.binds])
              have a1 := not_ready (i := 1) hr hz rfl (by simp [Region.binds, a0])
              have a2 := not_ready (i := 2) hr hz rfl (by simp [Region.binds, a0, a1])
              have a3 := not_ready (i := 3) hr hz rfl (by simp [Region.binds, a0, a1, a2])
              have a4 := not_ready (i := 4) hr hz rfl (by simp [Region.binds, a0, a1, a2, a3])
              have a5 := not_ready (i := 5) hr hz rfl (by simp [Region.binds, a0, a1, a2, a3, a4])
              have a6 := not_ready (i := 6) hr hz rfl (by simp [Region.binds, a0, a1, a2, a3, a4, a5])
              have a7 := not_ready (i := 7) hr hz rfl (by simp [Region.binds, a0, a1, a2, a3, a4, a5, a6])
              have a8 := not_ready (i := 8) hr hz rfl (by simp [Region.binds, a0, a1, a2, a3, a4, a5, a6, a7])
              have a9 := not_ready (i := 9) hr hz rfl (by simp [Region.binds, a0, a1, a2, a3, a4, a5, a6, a7, a8])
              have a10 := not_ready (i := 10) hr hz rfl (by simp [Region.binds, a0, a1, a2, a3, a4, a5, a6, a7, a8, a9])
              have a11 := not_ready (i := 11) hr hz rfl (by simp [Region.binds, a0, a1, a2, a3, a4, a5, a6, a7, a8, a9, a10])
              have a12 := not_ready (i := 12) hr hz rfl (by simp [Region.binds, a0, a1, a2, a3, a4, a5, a6, a7, a8, a9, a10, a11])
              have a13 := not_ready (i := 13) hr hz rfl (by simp [Region.binds, a0, a1, a2, a3, a4, a5, a6, a7, a8, a9, a10, a11, a12])
              have a14 := not_ready (i := 14) hr hz rfl (by simp [Region.binds, a0, a1, a2, a3, a4, a5, a6, a7, a8, a9, a10, a11, a12, a13])
              have a15 := not_ready (i := 15) hr hz rfl (by simp [Region.binds, a0, a1, a2, a3, a4, a5, a6, a7, a8, a9, a10, a11, a12, a13, a14])
              have a16 := not_ready (i := 16) hr hz rfl (by simp [Region.binds, a0, a1, a2, a3, a4, a5, a6, a7, a8, a9, a10, a11, a12, a13, a14, a15])
              have hY := hM0.get a16
              clear hr hz hv hZ a0 a1 a2 a3 a4 a5 a6 a7 a8 a9 a10 a11 a12 a13 a14 a15 a16 hM0 hP12 hE
              go_wp2_with fail
              go_roundw
              case rel => exact ⟨d + 1, by omega, by rw [show (n : Int) - 1 - ((d + 1 : Nat) : Int) = (cc : Int) - 1 by have := HEC.out; omega], hY.1, hY.2.1, hY.2.2⟩
              case measure => simp [intOf] <;> omega
            · exact ⟨fun zz => List.getD [u75, u76, u77, u78, u79, u80, u81, u82, u83, u84, u85, u86, u74, u87, u88, u89, undef] zz undef, _, _, _, _, rfl, OnFix.start, Off.new ⟨((Below.refl _ _).drew), fun h => absurd h (by decide), fun h => absurd h (by decide), fun h => absurd h (by decide)⟩, fun h => absurd h (by decide), fun h => absurd h (by decide), Edg.start, by simp⟩
      · obtain rfl : d = n := by omega
        have ec : (d : Int) - 1 - (d : Int) = -1 := by omega
        rw [ec]
        go_wp2_with fail
        have hBw : Below w.heap.size w _ := HB.out.trans (hbw.mono HB.out.size)
        have hnp : NumsP _ (some ⟨gX, 0, none⟩) d (back g d d) := fun j hj => ⟨gX, rfl, hP.2 j hj (by omega)⟩
        exact bodyPost_ret (v := .tuple #[.slice (some ⟨gX, 0, none⟩) d d, .int .i64 0]) (by simp [results, Try.results20, go_sem]) rfl (.inr ⟨rfl, gX, rfl, hnp, Nat.le_trans HB.out.size HGX.out, hBw⟩)
end Go.Proofs.Ytdpjknjlhchmcaa

namespace Go.Proofs.Ytdpjknjlhchmcaa
open Go.RowKit Pl
set_option linter.unusedVariables false
set_option linter.unusedSimpArgs false
/-- A new matrix, its rows made one by one. -/
def RetMk (w : World) (n : Nat) (f : Nat → Nat → Cx) (e : Ending) (w' : World) : Prop := ∃ b gO, e = .returned (.slice (some ⟨gO, 0, none⟩) n n) ∧ Below w.heap.size w b ∧ MkP b gO n n n (fun _ _ => True) f w'
/-- A new row. -/
def RowN (z : Nat) (w : World) (u : Value) (c : Nat) (q : Cx) : Prop := ∃ g, u = .slice (some ⟨g, 0, none⟩) c c ∧ z ≤ g ∧ g < w.heap.size ∧ RowB w g 34 (c * 5) ∧ ∀ k, k < c → PE w g (k * 5) q
theorem RowN.to {z c : Nat} {w w' : World} {u : Value} {q : Cx} (h : RowN z w u c q) (hb : Below w.heap.size w w') : RowN z w' u c q := by
  obtain ⟨g, e, h1, h2, h3, h4⟩ := h; exact ⟨g, e, h1, Nat.lt_of_lt_of_le h2 hb.size, h3.to hb, fun k hk => (h4 k hk).to hb⟩
/-- The identity but for row i. -/
def id0 (i a b : Nat) : Cx := if a = i then Cx.ofInt 0 else idm a b
theorem id0_at {i a b : Nat} (h : ¬ (a = i ∧ b = i)) : idm a b = id0 i a b := by
  unfold id0
  by_cases e : a = i
  · subst e
    rw [if_pos rfl]
    exact if_neg (fun e2 => h ⟨rfl, e2.symm⟩)
  · rw [if_neg e]
set_option maxRecDepth 100000 in
set_option maxHeartbeats 40000000 in
theorem identity_mk (w : World) (n : Int) : Calls Try.prog 19 #[.int .i64 n] w (RetMk w (idn n) idm) := by
  obtain ⟨d, hd⟩ : ∃ d, d = idn n := ⟨_, rfl⟩
  rw [← hd]
  have hd2 : d ≤ 32 := by rw [hd]; unfold idn; split <;> (try split) <;> omega
  have hmx : min (max n 0) 32 = (d : Int) := by rw [hd]; unfold idn; split <;> (try split) <;> omega
  have hmk := mk_nums2 d (by omega)
  have hm_Of : ∀ (k : Nat) (v1 v2 v3 v4 v5 : Value) (w : World), (method (k + 1) 34 (.agg #[v1, v2, v3, v4, v5]) "Of").run Try.prog w = .ok (112, .agg #[v1, v2, v3, v4, v5]) w := fun _ _ _ _ _ _ _ => by kernel_rfl
  clear hd
  go_enter Try.func19, Try.ntmps19
  go_upto_region 3 with fail
  clear hmk hmx
  obtain ⟨g3, hg3⟩ : ∃ g, g = w.heap.size := ⟨_, rfl⟩
  obtain ⟨w1, hw1⟩ : ∃ w1 : World, w1 = w.alloc (.cells #[.bool false, .slice none 0 0, .bool false, .slice none 0 0, .slice none 0 0] 34) := ⟨_, rfl⟩
  have hb1 : Below w.heap.size w w1 := by rw [hw1]; exact (Below.refl _ _).alloc (Nat.le_refl _) _
  have ht : C5 w1 g3 (.bool false) (.slice none 0 0) (.bool false) (.slice none 0 0) (.slice none 0 0) := by subst hw1 hg3; exact ⟨by go_simp, by go_simp, by go_simp, by go_simp, by go_simp⟩
  have hl3 : g3 < w1.heap.size := by subst hw1 hg3; simp
  have hB0 : MkP w1 w1.heap.size d d 0 (fun _ _ => True) idm (mkS w1 d 42) := MkP.new
  have es : g3 + 1 = w1.heap.size := by rw [hw1, hg3]; simp
  rw [← hg3, ← hw1, es]
  have HB1 := Lib.hid hb1
  have HT := Lib.hid (And.intro ht hl3)
  clear hb1 hw1 hg3 ht hl3 es
  generalize mkS w1 d 42 = W0 at *
  obtain ⟨gO, hgO⟩ : ∃ g, g = w1.heap.size := ⟨_, rfl⟩
  rw [← hgO] at hB0 ⊢
  clear hgO
  go_wp2_with fail
  go_loopw [12] (fun i (wr : World) => ∃ k : Nat, k ≤ d ∧ i = .int .i64 k ∧ MkP w1 gO d d k (fun _ _ => True) idm wr) (fun i _ => d - (intOf i).toNat)
  case atStart => exact ⟨0, Nat.zero_le _, rfl, hB0⟩
  case round =>
    obtain ⟨i, hi, rfl, hB⟩ := hrel
    clear hB0
    by_cases hlt : i < d
    · obtain ⟨ht, hl3⟩ := HT.out
      replace ht := ht.to hB.below hl3
      replace hl3 := Nat.lt_of_lt_of_le hl3 hB.below.size
      have i1 : (0 : Int) ≤ (i : Int) := by omega
      have i2 : (i : Int) < (d : Int) := by omega
      have HBB := Lib.hid hB
      clear hB
      go_upto_region 6 with fail
      refine wp_region_any (by kernel_rfl) ?_
      refine wpAny_inv (fun l a' w' => ∃ V : Nat → Value, ∃ x4 x5 x6 x9 : Value, a' = ⟨#[.int .i64 n, undef, .slice none 0 0, .pointer (some ⟨g3, 0, none⟩), .slice (some ⟨gO, 0, none⟩) d d, .int .i64 ↑i, .int .i64 n, .int .i64 (max n 0), .int .i64 ↑d, .slice (some ⟨gO, 0, none⟩) d d, .slice (some ⟨gO, 0, none⟩) d d, .int .i64 ↑d, .int .i64 ↑i, .bool true, .int .i64 ↑i, V 0, V 1, V 2, V 3, x4, x5, x6, V 7, V 8, x9, V 10, u26, u27, u28, u29, u30, u31, u32, u33, u34, u35, u36, undef], []⟩ ∧ OnFix l V (fun zz => List.getD [.slice (some ⟨gO, 0, none⟩) d d, .int .i64 i, .agg #[.bool false, .slice none 0 0, .bool false, .slice none 0 0, .slice none 0 0], .iface 34 (.agg #[.bool false, .slice none 0 0, .bool false, .slice none 0 0, .slice none 0 0]), undef, undef, undef, .slice (some ⟨gO, 0, none⟩) d d, .int .i64 d, undef, .pointer (some ⟨gO, i, none⟩), undef] zz undef) [0, 1, 2, 3, 7, 8, 10] ∧ Off l 11 (Below wr.heap.size wr w' ∧ On l 4 (SlotNum w' x4 (Cx.ofInt 0)) ∧ On l 5 (SlotNum w' x5 (Cx.ofInt 0)) ∧ On l 6 (BoxN wr.heap.size w' x6 (Cx.ofInt 0)) ∧ On l 9 (RowN wr.heap.size w' x9 d (Cx.ofInt 0))) ∧ On l 11 (MkP w1 gO d d (i + 1) (fun _ _ => True) (id0 i) w') ∧ Edg l [(11, 9), (9, 6), (6, 5), (5, 3), (3, 2), (5, 4)] ∧ l.size = 12) ?_ ?_ _ _ _ _ (by decide) ?_
      · intro l a' W' i hi hI
        obtain ⟨V, x4, x5, x6, x9, rfl, hv, hZ, hM0, hE, hz⟩ := hI
        obtain ⟨hlt, hoff, hpre⟩ := ready_pre hi
        have hc : i ∈ [0, 1, 2, 3, 4, 5, 6, 7, 8, 9, 10, 11] := (by decide : ∀ i, i < 12 → i ∈ [0, 1, 2, 3, 4, 5, 6, 7, 8, 9, 10, 11]) i hlt
        simp only [List.mem_cons, List.not_mem_nil, or_false] at hc
        clear hi hlt
        rcases hc with rfl | rfl | rfl | rfl | rfl | rfl | rfl | rfl | rfl | rfl | rfl | rfl <;> (have hp := hpre _ rfl; simp [Region.binds] at hp; clear hpre)
        · skip
          have HV := Lib.hid hv
          clear hv
          refine wpOp_go rfl rfl (fun K hK => ?_)
          go_simp
          refine hK _ _ ?_
          exact ⟨_, _, _, _, _, rfl, HV.out.new (x := .slice (some ⟨gO, 0, none⟩) d d) rfl, hZ.keep.map (fun ⟨hb0, y4, y5, y6, y9⟩ => ⟨hb0, y4.keep (by decide), y5.keep (by decide), y6.keep (by decide), y9.keep (by decide)⟩), hM0.keep (by decide), hE.mono (by decide), by simp [hz]⟩
        · skip
          have HV := Lib.hid hv
          clear hv
          refine wpOp_go rfl rfl (fun K hK => ?_)
          go_simp
          refine hK _ _ ?_
          exact ⟨_, _, _, _, _, rfl, HV.out.new (x := .int .i64 i) rfl, hZ.keep.map (fun ⟨hb0, y4, y5, y6, y9⟩ => ⟨hb0, y4.keep (by decide), y5.keep (by decide), y6.keep (by decide), y9.keep (by decide)⟩), hM0.keep (by decide), hE.mono (by decide), by simp [hz]⟩
        · skip
          have HV := Lib.hid hv
          clear hv
          have hY := hZ.get (fun h => off hoff (hE.get 3 2 (by decide) (hE.get 5 3 (by decide) (hE.get 6 5 (by decide) (hE.get 9 6 (by decide) (hE.get 11 9 (by decide) h))))))
          obtain ⟨z0, z1, z2, z3, z4⟩ := ht
          have y0 := keepc hY.1 z0 hl3; have y1 := keepc hY.1 z1 hl3; have y2 := keepc hY.1 z2 hl3; have y3 := keepc hY.1 z3 hl3; have y4 := keepc hY.1 z4 hl3
          refine wpOp_go rfl rfl (fun K hK => ?_)
          go_simp
          refine hK _ _ ?_
          exact ⟨_, _, _, _, _, rfl, HV.out.new (x := .agg #[.bool false, .slice none 0 0, .bool false, .slice none 0 0, .slice none 0 0]) rfl, hZ.keep.map (fun ⟨hb0, y4, y5, y6, y9⟩ => ⟨hb0, y4.keep (by decide), y5.keep (by decide), y6.keep (by decide), y9.keep (by decide)⟩), hM0.keep (by decide), hE.mono (by decide), by simp [hz]⟩
        · skip
          have e2 : V 2 = .agg #[.bool false, .slice none 0 0, .bool false, .slice none 0 0, .slice none 0 0] := hv.get 2 (by decide) (by simp [hp])
          have HV := Lib.hid (hv.fixE e2 rfl)
          clear hv
          simp only [e2]
          refine wpOp_go rfl rfl (fun K hK => ?_)
          go_simp
          refine hK _ _ ?_
          exact ⟨_, _, _, _, _, rfl, HV.out.new (x := .iface 34 (.agg #[.bool false, .slice none 0 0, .bool false, .slice none 0 0, .slice none 0 0])) rfl, hZ.keep.map (fun ⟨hb0, y4, y5, y6, y9⟩ => ⟨hb0, y4.keep (by decide), y5.keep (by decide), y6.keep (by decide), y9.keep (by decide)⟩), hM0.keep (by decide), hE.step (by simp [hp]), by simp [hz]⟩
        · skip
          have HV := Lib.hid hv
          clear hv
          have hY := hZ.get (fun h => off hoff (hE.get 5 4 (by decide) (hE.get 6 5 (by decide) (hE.get 9 6 (by decide) (hE.get 11 9 (by decide) h)))))
          refine wpOp_go rfl rfl (fun K hK => ?_)
          go_wp2_with (first | (go_at_call 31; refine (int_any 0 _ (by omega) (by omega)).mono ?_; rintro e w3 ⟨E1, E2, E3, rfl, hN, hb⟩))
          try refine hK _ _ ?_
          exact ⟨_, _, _, _, _, rfl, HV.out.other (by decide), Off.new ⟨hY.1.trans (hb.mono hY.1.size), On.new (⟨E1, E2, E3, rfl, hN⟩), ((hY.2.2.1).keep (by decide)).map (fun h => h.to hb), ((hY.2.2.2.1).keep (by decide)).map (fun h => h.to hb), ((hY.2.2.2.2).keep (by decide)).map (fun h => h.to hb)⟩, fun h => absurd (hE.get 5 4 (by decide) (hE.get 6 5 (by decide) (hE.get 9 6 (by decide) (hE.get 11 9 (by decide) (on_ne h (by decide)))))) (off hoff), hE.mono (by decide), by simp [hz]⟩
        · skip
          have e3 : V 3 = .iface 34 (.agg #[.bool false, .slice none 0 0, .bool false, .slice none 0 0, .slice none 0 0]) := hv.get 3 (by decide) (by simp [hp])
          have HV := Lib.hid (hv.fixE e3 rfl)
          clear hv
          simp only [e3]
          have hY := hZ.get (fun h => off hoff (hE.get 6 5 (by decide) (hE.get 9 6 (by decide) (hE.get 11 9 (by decide) h))))
          obtain ⟨G1, G2, G3, e0, hM⟩ := hY.2.1.get (by simp [hp])
          subst e0
          refine wpOp_go rfl rfl (fun K hK => ?_)
          go_wp2_with (first | (go_at_call 112; refine (of_five _ _ _ _ _ (Cx.ofInt 0) G1 G2 G3 _ hM rfl rfl rfl rfl rfl).mono ?_; rintro e w3 ⟨E1, E2, E3, rfl, hN, hb⟩))
          try refine hK _ _ ?_
          exact ⟨_, _, _, _, _, rfl, HV.out.other (by decide), Off.new ⟨hY.1.trans (hb.mono hY.1.size), ((hY.2.1).keep (by decide)).map (fun h => h.to hb), On.new (⟨E1, E2, E3, rfl, hN⟩), ((hY.2.2.2.1).keep (by decide)).map (fun h => h.to hb), ((hY.2.2.2.2).keep (by decide)).map (fun h => h.to hb)⟩, fun h => absurd (hE.get 6 5 (by decide) (hE.get 9 6 (by decide) (hE.get 11 9 (by decide) (on_ne h (by decide))))) (off hoff), hE.step (by simp [hp]), by simp [hz]⟩
        · skip
          have HV := Lib.hid hv
          clear hv
          have hY := hZ.get (fun h => off hoff (hE.get 9 6 (by decide) (hE.get 11 9 (by decide) h)))
          obtain ⟨E1, E2, E3, e0, hN⟩ := hY.2.2.1.get (by simp [hp])
          subst e0
          refine wpOp_go rfl rfl (fun K hK => ?_)
          go_simp
          refine hK _ _ ?_
          exact ⟨_, _, _, _, _, rfl, HV.out.other (by decide), Off.new ⟨hY.1.trans (((Below.refl _ _).alloc (Nat.le_refl _) _).mono hY.1.size), ((hY.2.1).keep (by decide)).map (fun h => h.to ((Below.refl _ _).alloc (Nat.le_refl _) _)), ((hY.2.2.1).keep (by decide)).map (fun h => h.to ((Below.refl _ _).alloc (Nat.le_refl _) _)), On.new (BoxN.new hN hY.1.size), ((hY.2.2.2.2).keep (by decide)).map (fun h => h.to ((Below.refl _ _).alloc (Nat.le_refl _) _))⟩, fun h => absurd (hE.get 9 6 (by decide) (hE.get 11 9 (by decide) (on_ne h (by decide)))) (off hoff), hE.step (by simp [hp]), by simp [hz]⟩
        · skip
          have HV := Lib.hid hv
          clear hv
          refine wpOp_go rfl rfl (fun K hK => ?_)
          go_simp
          refine hK _ _ ?_
          exact ⟨_, _, _, _, _, rfl, HV.out.new (x := .slice (some ⟨gO, 0, none⟩) d d) rfl, hZ.keep.map (fun ⟨hb0, y4, y5, y6, y9⟩ => ⟨hb0, y4.keep (by decide), y5.keep (by decide), y6.keep (by decide), y9.keep (by decide)⟩), hM0.keep (by decide), hE.mono (by decide), by simp [hz]⟩
        · skip
          have e7 : V 7 = .slice (some ⟨gO, 0, none⟩) d d := hv.get 7 (by decide) (by simp [hp])
          have HV := Lib.hid (hv.fixE e7 rfl)
          clear hv
          simp only [e7]
          refine wpOp_go rfl rfl (fun K hK => ?_)
          go_simp
          refine hK _ _ ?_
          exact ⟨_, _, _, _, _, rfl, HV.out.new (x := .int .i64 d) rfl, hZ.keep.map (fun ⟨hb0, y4, y5, y6, y9⟩ => ⟨hb0, y4.keep (by decide), y5.keep (by decide), y6.keep (by decide), y9.keep (by decide)⟩), hM0.keep (by decide), hE.mono (by decide), by simp [hz]⟩
        · skip
          have e8 : V 8 = .int .i64 d := hv.get 8 (by decide) (by simp [hp])
          have HV := Lib.hid (hv.fixE e8 rfl)
          clear hv
          simp only [e8]
          have hY := hZ.get (fun h => off hoff (hE.get 11 9 (by decide) h))
          obtain ⟨bb, e0, hpe, hbb⟩ := hY.2.2.2.1.get (by simp [hp])
          subst e0
          refine wpOp_go rfl rfl (fun K hK => ?_)
          go_wp2_with (first | (go_at_call 48; refine (repeat_any _ bb d (Cx.ofInt 0) hpe (by omega) (by omega)).mono ?_; rintro e w3 ⟨gr, rfl, hgr, hrB, hrP, hb⟩))
          try refine hK _ _ ?_
          exact ⟨_, _, _, _, _, rfl, HV.out.other (by decide), Off.new ⟨hY.1.trans (hb.mono hY.1.size), ((hY.2.1).keep (by decide)).map (fun h => h.to hb), ((hY.2.2.1).keep (by decide)).map (fun h => h.to hb), ((hY.2.2.2.1).keep (by decide)).map (fun h => h.to hb), On.new (⟨gr, rfl, Nat.le_trans hY.1.size hgr, hrB.lt, hrB, hrP⟩)⟩, fun h => absurd (hE.get 11 9 (by decide) (on_ne h (by decide))) (off hoff), hE.step (by simp [hp]), by simp [hz]⟩
        · skip
          have e0 : V 0 = .slice (some ⟨gO, 0, none⟩) d d := hv.get 0 (by decide) (by simp [hp])
          have e1 : V 1 = .int .i64 i := hv.get 1 (by decide) (by simp [hp])
          have HV := Lib.hid ((hv.fixE e0 rfl).fixE e1 rfl)
          clear hv
          simp only [e0, e1]
          refine wpOp_go rfl rfl (fun K hK => ?_)
          go_simp
          refine hK _ _ ?_
          exact ⟨_, _, _, _, _, rfl, HV.out.new (x := .pointer (some ⟨gO, i, none⟩)) rfl, hZ.keep.map (fun ⟨hb0, y4, y5, y6, y9⟩ => ⟨hb0, y4.keep (by decide), y5.keep (by decide), y6.keep (by decide), y9.keep (by decide)⟩), hM0.keep (by decide), hE.mono (by decide), by simp [hz]⟩
        · skip
          have e10 : V 10 = .pointer (some ⟨gO, i, none⟩) := hv.get 10 (by decide) (by simp [hp])
          have HV := Lib.hid (hv.fixE e10 rfl)
          clear hv
          simp only [e10]
          have hY := hZ.get (off hoff)
          obtain ⟨gr, e0, hgr, hgl, hrB, hrP⟩ := hY.2.2.2.2.get (by simp [hp])
          subst e0
          obtain ⟨v0, m1, m2⟩ := (HBB.out.to hY.1).at hlt
          refine wpOp_go rfl rfl (fun K hK => ?_)
          go_simp
          refine hK _ _ ?_
          exact ⟨_, _, _, _, _, rfl, HV.out.other (by decide), Off.done (by omega), On.new ((HBB.out.cong (D' := fun _ _ => True) (f' := id0 i) (fun a b ha _ _ => ⟨trivial, if_neg (by omega)⟩)).rowR hlt hY.1 hgr hgl (fun _ => hrB) (fun k hk _ => by rw [show id0 i i k = Cx.ofInt 0 from if_pos rfl]; exact hrP k hk)), hE.step (by simp [hp]), by simp [hz]⟩
      · intro l a' W' hr hI
        obtain ⟨V, x4, x5, x6, x9, rfl, hv, hZ, hM0, hE, hz⟩ := hI
        have a0 := not_ready (i := 0) hr hz rfl (by simp [Region.binds])
        have a1 := not_ready (i := 1) hr hz rfl (by simp [Region.binds, a0])
        have a2 := not_ready (i := 2) hr hz rfl (by simp [Region.binds, a0, a1])
        have a3 := not_ready (i := 3) hr hz rfl (by simp [Region.binds, a0, a1, a2])
        have a4 := not_ready (i := 4) hr hz rfl (by simp [Region.binds, a0, a1, a2, a3])
        have a5 := not_ready (i := 5) hr hz rfl (by simp [Region.binds, a0, a1, a2, a3, a4])
        have a6 := not_ready (i := 6) hr hz rfl (by simp [Region.binds, a0, a1, a2, a3, a4, a5])
        have a7 := not_ready (i := 7) hr hz rfl (by simp [Region.binds, a0, a1, a2, a3, a4, a5, a6])
        have a8 := not_ready (i := 8) hr hz rfl (by simp [Region.binds, a0, a1, a2, a3, a4, a5, a6, a7])
        have a9 := not_ready (i := 9) hr hz rfl (by simp [Region.binds, a0, a1, a2, a3, a4, a5, a6, a7, a8])
        have a10 := not_ready (i := 10) hr hz rfl (by simp [Region.binds, a0, a1, a2, a3, a4, a5, a6, a7, a8, a9])
        have a11 := not_ready (i := 11) hr hz rfl (by simp [Region.binds, a0, a1, a2, a3, a4, a5, a6, a7, a8, a9, a10])
        have hY := hM0.get a11
        clear hr hz hv hZ a0 a1 a2 a3 a4 a5 a6 a7 a8 a9 a10 a11 hM0 hE
        go_wp2_with fail
        obtain ⟨g, hg1, hg2, hg3, _, hput⟩ := hY.put hlt (Nat.lt_succ_self i) hlt
        obtain ⟨ht, hl3⟩ := HT.out
        replace ht := ht.to hY.below hl3
        replace hl3 := Nat.lt_of_lt_of_le hl3 hY.below.size
        clear HBB
        obtain ⟨Wz, hWz⟩ : ∃ X : World, X = W' := ⟨_, rfl⟩
        rw [← hWz] at hput hg1 hg2 hg3 ht hl3 ⊢
        clear hWz hY
        go_upto_region 7 with fail
        refine wp_region_any (by kernel_rfl) ?_
        refine wpAny_inv (fun l a' w' => ∃ V2 : Nat → Value, ∃ x7 x8 : Value, a' = ⟨#[.int .i64 n, undef, .slice none 0 0, .pointer (some ⟨g3, 0, none⟩), .slice (some ⟨gO, 0, none⟩) d d, .int .i64 ↑i, .int .i64 n, .int .i64 (max n 0), .int .i64 ↑d, .slice (some ⟨gO, 0, none⟩) d d, .slice (some ⟨gO, 0, none⟩) d d, .int .i64 ↑d, .int .i64 ↑i, .bool true, .int .i64 ↑i, V 0, V 1, V 2, V 3, x4, x5, x6, V 7, V 8, x9, V 10, V2 0, V2 1, V2 2, V2 3, V2 4, V2 5, V2 6, x7, x8, V2 9, u36, undef], []⟩ ∧ OnFix l V2 (fun zz => List.getD [.slice (some ⟨gO, 0, none⟩) d d, .int .i64 i, .pointer (some ⟨gO, i, none⟩), .slice (some ⟨g, 0, none⟩) d d, .int .i64 i, .agg #[.bool false, .slice none 0 0, .bool false, .slice none 0 0, .slice none 0 0], .iface 34 (.agg #[.bool false, .slice none 0 0, .bool false, .slice none 0 0, .slice none 0 0]), undef, undef, .pointer (some ⟨g, i * 5, none⟩), undef] zz undef) [0, 1, 2, 3, 4, 5, 6, 9] ∧ Off l 10 (Below Wz.heap.size Wz w' ∧ On l 7 (SlotNum w' x7 (Cx.ofInt 1)) ∧ On l 8 (SlotNum w' x8 (Cx.ofInt 1))) ∧ On l 10 (MkP w1 gO d d (i + 1) (fun _ _ => True) idm w') ∧ Edg l [(10, 9), (9, 3), (10, 8), (8, 6), (6, 5), (8, 7)] ∧ l.size = 11) ?_ ?_ _ _ _ _ (by decide) ?_
        · intro l a' W' i hi hI
          obtain ⟨V2, x7, x8, rfl, hv, hZ, hM0, hE, hz⟩ := hI
          obtain ⟨hlt, hoff, hpre⟩ := ready_pre hi
          have hc : i ∈ [0, 1, 2, 3, 4, 5, 6, 7, 8, 9, 10] := (by decide : ∀ i, i < 11 → i ∈ [0, 1, 2, 3, 4, 5, 6, 7, 8, 9, 10]) i hlt
          simp only [List.mem_cons, List.not_mem_nil, or_false] at hc
          clear hi hlt
          rcases hc with rfl | rfl | rfl | rfl | rfl | rfl | rfl | rfl | rfl | rfl | rfl <;> (have hp := hpre _ rfl; simp [Region.binds] at hp; clear hpre)
          · skip
            have HV := Lib.hid hv
            clear hv
            refine wpOp_go rfl rfl (fun K hK => ?_)
            go_simp
            refine hK _ _ ?_
            exact ⟨_, _, _, rfl, HV.out.new (x := .slice (some ⟨gO, 0, none⟩) d d) rfl, hZ.keep.map (fun ⟨hb0, y7, y8⟩ => ⟨hb0, y7.keep (by decide), y8.keep (by decide)⟩), hM0.keep (by decide), hE.mono (by decide), by simp [hz]⟩
          · skip
            have HV := Lib.hid hv
            clear hv
            refine wpOp_go rfl rfl (fun K hK => ?_)
            go_simp
            refine hK _ _ ?_
            exact ⟨_, _, _, rfl, HV.out.new (x := .int .i64 i) rfl, hZ.keep.map (fun ⟨hb0, y7, y8⟩ => ⟨hb0, y7.keep (by decide), y8.keep (by decide)⟩), hM0.keep (by decide), hE.mono (by decide), by simp [hz]⟩
          · skip
            have e0 : V2 0 = .slice (some ⟨gO, 0, none⟩) d d := hv.get 0 (by decide) (by simp [hp])
            have e1 : V2 1 = .int .i64 i := hv.get 1 (by decide) (by simp [hp])
            have HV := Lib.hid ((hv.fixE e0 rfl).fixE e1 rfl)
            clear hv
            simp only [e0, e1]
            refine wpOp_go rfl rfl (fun K hK => ?_)
            go_simp
            refine hK _ _ ?_
            exact ⟨_, _, _, rfl, HV.out.new (x := .pointer (some ⟨gO, i, none⟩)) rfl, hZ.keep.map (fun ⟨hb0, y7, y8⟩ => ⟨hb0, y7.keep (by decide), y8.keep (by decide)⟩), hM0.keep (by decide), hE.mono (by decide), by simp [hz]⟩
          · skip
            have e2 : V2 2 = .pointer (some ⟨gO, i, none⟩) := hv.get 2 (by decide) (by simp [hp])
            have HV := Lib.hid (hv.fixE e2 rfl)
            clear hv
            simp only [e2]
            have hY := hZ.get (fun h => off hoff (hE.get 9 3 (by decide) (hE.get 10 9 (by decide) h)))
            have z := keepc hY.1 hg1 hg2
            refine wpOp_go rfl rfl (fun K hK => ?_)
            go_simp
            refine hK _ _ ?_
            exact ⟨_, _, _, rfl, HV.out.new (x := .slice (some ⟨g, 0, none⟩) d d) rfl, hZ.keep.map (fun ⟨hb0, y7, y8⟩ => ⟨hb0, y7.keep (by decide), y8.keep (by decide)⟩), hM0.keep (by decide), hE.mono (by decide), by simp [hz]⟩
          · skip
            have HV := Lib.hid hv
            clear hv
            refine wpOp_go rfl rfl (fun K hK => ?_)
            go_simp
            refine hK _ _ ?_
            exact ⟨_, _, _, rfl, HV.out.new (x := .int .i64 i) rfl, hZ.keep.map (fun ⟨hb0, y7, y8⟩ => ⟨hb0, y7.keep (by decide), y8.keep (by decide)⟩), hM0.keep (by decide), hE.mono (by decide), by simp [hz]⟩
          · skip
            have HV := Lib.hid hv
            clear hv
            have hY := hZ.get (fun h => off hoff (hE.get 6 5 (by decide) (hE.get 8 6 (by decide) (hE.get 10 8 (by decide) h))))
            obtain ⟨z0, z1, z2, z3, z4⟩ := ht
            have y0 := keepc hY.1 z0 hl3; have y1 := keepc hY.1 z1 hl3; have y2 := keepc hY.1 z2 hl3; have y3 := keepc hY.1 z3 hl3; have y4 := keepc hY.1 z4 hl3
            refine wpOp_go rfl rfl (fun K hK => ?_)
            go_simp
            refine hK _ _ ?_
            exact ⟨_, _, _, rfl, HV.out.new (x := .agg #[.bool false, .slice none 0 0, .bool false, .slice none 0 0, .slice none 0 0]) rfl, hZ.keep.map (fun ⟨hb0, y7, y8⟩ => ⟨hb0, y7.keep (by decide), y8.keep (by decide)⟩), hM0.keep (by decide), hE.mono (by decide), by simp [hz]⟩
          · skip
            have e5 : V2 5 = .agg #[.bool false, .slice none 0 0, .bool false, .slice none 0 0, .slice none 0 0] := hv.get 5 (by decide) (by simp [hp])
            have HV := Lib.hid (hv.fixE e5 rfl)
            clear hv
            simp only [e5]
            refine wpOp_go rfl rfl (fun K hK => ?_)
            go_simp
            refine hK _ _ ?_
            exact ⟨_, _, _, rfl, HV.out.new (x := .iface 34 (.agg #[.bool false, .slice none 0 0, .bool false, .slice none 0 0, .slice none 0 0])) rfl, hZ.keep.map (fun ⟨hb0, y7, y8⟩ => ⟨hb0, y7.keep (by decide), y8.keep (by decide)⟩), hM0.keep (by decide), hE.step (by simp [hp]), by simp [hz]⟩
          · skip
            have HV := Lib.hid hv
            clear hv
            have hY := hZ.get (fun h => off hoff (hE.get 8 7 (by decide) (hE.get 10 8 (by decide) h)))
            refine wpOp_go rfl rfl (fun K hK => ?_)
            go_wp2_with (first | (go_at_call 31; refine (int_any 1 _ (by omega) (by omega)).mono ?_; rintro e w3 ⟨E1, E2, E3, rfl, hN, hb⟩))
            try refine hK _ _ ?_
            exact ⟨_, _, _, rfl, HV.out.other (by decide), Off.new ⟨hY.1.trans (hb.mono hY.1.size), On.new (⟨E1, E2, E3, rfl, hN⟩), ((hY.2.2).keep (by decide)).map (fun h => h.to hb)⟩, fun h => absurd (hE.get 8 7 (by decide) (hE.get 10 8 (by decide) (on_ne h (by decide)))) (off hoff), hE.mono (by decide), by simp [hz]⟩
          · skip
            have e6 : V2 6 = .iface 34 (.agg #[.bool false, .slice none 0 0, .bool false, .slice none 0 0, .slice none 0 0]) := hv.get 6 (by decide) (by simp [hp])
            have HV := Lib.hid (hv.fixE e6 rfl)
            clear hv
            simp only [e6]
            have hY := hZ.get (fun h => off hoff (hE.get 10 8 (by decide) h))
            obtain ⟨G1, G2, G3, e0, hM⟩ := hY.2.1.get (by simp [hp])
            subst e0
            refine wpOp_go rfl rfl (fun K hK => ?_)
            go_wp2_with (first | (go_at_call 112; refine (of_five _ _ _ _ _ (Cx.ofInt 1) G1 G2 G3 _ hM rfl rfl rfl rfl rfl).mono ?_; rintro e w3 ⟨E1, E2, E3, rfl, hN, hb⟩))
            try refine hK _ _ ?_
            exact ⟨_, _, _, rfl, HV.out.other (by decide), Off.new ⟨hY.1.trans (hb.mono hY.1.size), ((hY.2.1).keep (by decide)).map (fun h => h.to hb), On.new (⟨E1, E2, E3, rfl, hN⟩)⟩, fun h => absurd (hE.get 10 8 (by decide) (on_ne h (by decide))) (off hoff), hE.step (by simp [hp]), by simp [hz]⟩
          · skip
            have e3 : V2 3 = .slice (some ⟨g, 0, none⟩) d d := hv.get 3 (by decide) (by simp [hp])
            have e4 : V2 4 = .int .i64 i := hv.get 4 (by decide) (by simp [hp])
            have HV := Lib.hid ((hv.fixE e3 rfl).fixE e4 rfl)
            clear hv
            simp only [e3, e4]
            refine wpOp_go rfl rfl (fun K hK => ?_)
            go_simp
            refine hK _ _ ?_
            exact ⟨_, _, _, rfl, HV.out.new (x := .pointer (some ⟨g, i * 5, none⟩)) rfl, hZ.keep.map (fun ⟨hb0, y7, y8⟩ => ⟨hb0, y7.keep (by decide), y8.keep (by decide)⟩), hM0.keep (by decide), hE.step (by simp [hp]), by simp [hz]⟩
          · skip
            have e9 : V2 9 = .pointer (some ⟨g, i * 5, none⟩) := hv.get 9 (by decide) (by simp [hp])
            have HV := Lib.hid (hv.fixE e9 rfl)
            clear hv
            simp only [e9]
            have hY := hZ.get (off hoff)
            obtain ⟨E1, E2, E3, e1, hN⟩ := hY.2.2.get (by simp [hp])
            subst e1
            obtain ⟨⟨u0, u1, u2, u3, u4, d0, d1, d2, d3, d4⟩, ⟨f0, f1, f2, f3, f4⟩, hfin⟩ := hput W' hY.1
            refine wpOp_go rfl rfl (fun K hK => ?_)
            go_simp
            refine hK _ _ ?_
            obtain ⟨XX, hX⟩ : ∃ XX : World, XX = set5o W' g (i * 5) (Cx.ofInt 1) E1 E2 E3 := ⟨_, rfl⟩
            have hw : set5o W' g (i * 5) (Cx.ofInt 1) E1 E2 E3 = XX := hX.symm
            unfold set5o at hw
            rw [hw]
            subst hX
            exact ⟨_, _, _, rfl, HV.out.other (by decide), Off.done (by omega), On.new (hfin (fun _ _ => True) idm _ E1 E2 E3 hN (if_pos rfl) (fun a b h _ => ⟨trivial, id0_at h⟩)), hE.step (by simp [hp]), by simp [hz]⟩
        · intro l a' W' hr hI
          obtain ⟨V2, x7, x8, rfl, hv, hZ, hM0, hE, hz⟩ := hI
          have a0 := not_ready (i := 0) hr hz rfl (by simp [Region.binds])
          have a1 := not_ready (i := 1) hr hz rfl (by simp [Region.binds, a0])
          have a2 := not_ready (i := 2) hr hz rfl (by simp [Region.binds, a0, a1])
          have a3 := not_ready (i := 3) hr hz rfl (by simp [Region.binds, a0, a1, a2])
          have a4 := not_ready (i := 4) hr hz rfl (by simp [Region.binds, a0, a1, a2, a3])
          have a5 := not_ready (i := 5) hr hz rfl (by simp [Region.binds, a0, a1, a2, a3, a4])
          have a6 := not_ready (i := 6) hr hz rfl (by simp [Region.binds, a0, a1, a2, a3, a4, a5])
          have a7 := not_ready (i := 7) hr hz rfl (by simp [Region.binds, a0, a1, a2, a3, a4, a5, a6])
          have a8 := not_ready (i := 8) hr hz rfl (by simp [Region.binds, a0, a1, a2, a3, a4, a5, a6, a7])
          have a9 := not_ready (i := 9) hr hz rfl (by simp [Region.binds, a0, a1, a2, a3, a4, a5, a6, a7, a8])
          have a10 := not_ready (i := 10) hr hz rfl (by simp [Region.binds, a0, a1, a2, a3, a4, a5, a6, a7, a8, a9])
          have hY := hM0.get a10
          clear hr hz hv hZ a0 a1 a2 a3 a4 a5 a6 a7 a8 a9 a10 hM0 hE
          go_wp2_with fail
          go_roundw
          case rel => exact ⟨i + 1, by omega, by go_num, hY⟩
          case measure => simp [intOf]; omega
        · exact ⟨fun zz => List.getD [u26, u27, u28, u29, u30, u31, u32, u33, u34, u35, undef] zz undef, _, _, rfl, OnFix.start, Off.new ⟨((Below.refl _ _).drew), fun h => absurd h (by decide), fun h => absurd h (by decide)⟩, fun h => absurd h (by decide), Edg.start, by simp⟩
      · exact ⟨fun zz => List.getD [u15, u16, u17, u18, u19, u20, u21, u22, u23, u24, u25, undef] zz undef, _, _, _, _, rfl, OnFix.start, Off.new ⟨((Below.refl _ _).drew), fun h => absurd h (by decide), fun h => absurd h (by decide), fun h => absurd h (by decide), fun h => absurd h (by decide)⟩, fun h => absurd h (by decide), Edg.start, by simp⟩
    · obtain rfl : i = d := by omega
      go_wp2_with fail
      go_ret
      exact ⟨w1, gO, rfl, HB1.out, hB⟩
theorem identity_any (w : World) (n : Int) : Calls Try.prog 19 #[.int .i64 n] w (RetMat w (idn n) (fun _ => idn n) idm) := by
  refine (identity_mk w n).mono ?_
  rintro e w' ⟨b, gO, rfl, hb, h⟩
  obtain ⟨h1, h2⟩ := h.fin (fun _ _ => trivial)
  exact ⟨_, _, rfl, h1, hb.trans (h2.mono hb.size)⟩
end Go.Proofs.Ytdpjknjlhchmcaa

namespace Go.Proofs.Ytdpjknjlhchmcaa
open Go.RowKit Pl
set_option linter.unusedVariables false
set_option linter.unusedSimpArgs false
/-- The inverse by elimination: column k solves the system with the k-th unit vector. -/
def invF (n : Nat) (f : Nat → Nat → Cx) : Nat → Nat → Cx := fun i k => back (elimF n 0 0 (beside n f fun _ i => idm k i)).2.2 n n i
theorem stop_same {n : Nat} (f : Nat → Nat → Cx) (q : Nat → Cx) : (elimF n 0 0 (beside n f fun _ i => q i)).2.1 = (elimF n 0 0 f).2.1 :=
  (elim_congr (n := n) n 0 0 _ _ (by omega) (fun i k hi hk => if_pos hk)).2
/-- The first k columns are put in, of the next one the first i elements. -/
def colsTo (g f : Nat → Nat → Cx) (k i : Nat) : Nat → Nat → Cx := fun a b => if b < k ∨ (b = k ∧ a < i) then g a b else f a b
theorem colsTo_start {n m : Nat} {g f : Nat → Nat → Cx} : ∀ a b, a < n → b < m → colsTo g f 0 0 a b = f a b := fun a b _ _ => if_neg (by omega)
theorem colsTo_next {n m k : Nat} {g f : Nat → Nat → Cx} : ∀ a b, a < n → b < m → colsTo g f (k + 1) 0 a b = colsTo g f k n a b := by
  intro a b ha _
  unfold colsTo
  by_cases h : b < k + 1
  · rw [if_pos (.inl h), if_pos (by omega)]
  · rw [if_neg (by omega), if_neg (by omega)]
theorem colsTo_end {n : Nat} {g f : Nat → Nat → Cx} : ∀ a b, a < n → b < n → g a b = colsTo g f n 0 a b := fun a b _ hb => (if_pos (.inl hb)).symm
theorem colsTo_new {k i : Nat} {g f : Nat → Nat → Cx} : colsTo g f k (i + 1) i k = g i k := if_pos (.inr ⟨rfl, Nat.lt_succ_self i⟩)
theorem colsTo_old {k i a b : Nat} {g f : Nat → Nat → Cx} (h : ¬ (a = i ∧ b = k)) : colsTo g f k (i + 1) a b = colsTo g f k i a b := by
  unfold colsTo
  by_cases e : b < k ∨ (b = k ∧ a < i)
  · rw [if_pos e, if_pos (by omega)]
  · rw [if_neg e, if_neg (by omega)]
/-- A matrix all of whose blocks lie from z on. -/
def FarM (z : Nat) (w : World) (gO n m : Nat) (f : Nat → Nat → Cx) : Prop := (z ≤ gO ∧ gO < w.heap.size) ∧ ∃ G : Nat → Nat, ∀ i, i < n → w.cell? ⟨gO, i, none⟩ = some (.slice (some ⟨G i, 0, none⟩) m m) ∧ z ≤ G i ∧ ∀ k, k < m → PE w (G i) (k * 5) (f i k)
theorem FarM.to {z gO n m : Nat} {w w' : World} {f : Nat → Nat → Cx} (h : FarM z w gO n m f) (hb : Below w.heap.size w w') : FarM z w' gO n m f := by
  obtain ⟨⟨h1, h2⟩, G, h3⟩ := h
  exact ⟨⟨h1, Nat.lt_of_lt_of_le h2 hb.size⟩, G, fun i hi => ⟨keepc hb (h3 i hi).1 h2, (h3 i hi).2.1, fun k hk => ((h3 i hi).2.2 k hk).to hb⟩⟩
theorem FarM.set5o {z gO n m p o : Nat} {w : World} {f : Nat → Nat → Cx} {q : Cx} {A1 A2 A3 : Option Addr} {c : Bool} (h : FarM z w gO n m f) (hp : p < z) (k : w.cell? ⟨p, 0, none⟩ = some (.bool c)) : FarM z (Proofs.Ytdpjknjlhchmcaa.set5o w p o q A1 A2 A3) gO n m f := by
  obtain ⟨⟨h1, h2⟩, G, h3⟩ := h
  refine ⟨⟨h1, by rw [set5o_size]; exact h2⟩, G, fun i hi => ?_⟩
  obtain ⟨a1, a2, a3⟩ := h3 i hi
  exact ⟨set5o_cell a1 (.inl (by omega)), a2, fun k' hk => (a3 k' hk).set5o (.inl (by omega)) k⟩
theorem FarM.of {z gO n m : Nat} {w0 w : World} {f : Nat → Nat → Cx} (h : MkP w0 gO n m n (fun _ _ => True) f w) (hz : z ≤ w0.heap.size) : FarM z w gO n m f := by
  obtain ⟨h1, h2, _, ⟨G, h4, _, _⟩, _⟩ := h
  exact ⟨⟨Nat.le_trans hz h1, h2⟩, G, fun i hi => by
    obtain ⟨a1, a2, a3, a4, a5, a6⟩ := h4 i hi hi
    exact ⟨a1, Nat.le_trans hz a2, fun k hk => a6 k hk trivial⟩⟩
def RetInv (w : World) (n : Nat) (f : Nat → Nat → Cx) (e : Ending) (w' : World) : Prop :=
  (0 ≤ (elimF n 0 0 f).2.1 ∧ e = .returned (.tuple #[.slice none 0 0, .int .i64 6]) ∧ Below w.heap.size w w') ∨
  ((elimF n 0 0 f).2.1 = -1 ∧ ∃ g, e = .returned (.tuple #[.slice (some ⟨g, 0, none⟩) n n, .int .i64 0]) ∧ MatP w' (some ⟨g, 0, none⟩) n (fun _ => n) (invF n f) ∧ Below w.heap.size w w')
set_option maxRecDepth 100000 in
set_option maxHeartbeats 40000000 in
theorem inverse_any (w : World) (A : Option Addr) (n c K0 : Nat) (N : Nat → Nat) (f : Nat → Nat → Cx) (hM : MatP w A n N f) (hn : n ≤ 5) (hN : ∀ i, i < n → N i = n) (hK : 1 ≤ K0) (hB : 20000 * bd K0 n + 100000 ≤ 137438953472) (hS : ∀ i k, i < n → k < n → sz K0 (f i k)) :
    Calls Try.prog 16 #[.slice A n c] w (RetInv w n f) := by
  have hsq : Valid n N ∧ colN n N = n := by
    unfold Valid colN
    by_cases h : n = 0
    · exact ⟨.inl h, by rw [if_pos h, h]⟩
    · have h0 := hN 0 (by omega)
      exact ⟨.inr ⟨by omega, by omega, fun i hi => by rw [hN i hi, h0]⟩, by rw [if_neg h, h0]⟩
  have HSQ := Lib.hid (square_any w A n c N f hM (by omega) (fun i hi => by rw [hN i hi]; omega) true ⟨fun _ => hsq, fun _ => rfl⟩)
  have HCP := Lib.hid (fun (W : World) (h : MatP W A n N f) => copied_any W A .none n c n 0 0 (fun _ => 0) f f (h.congN hN) (MatP.none W _ _) (by omega) (by omega) (by omega) (fun h => h) (fun j hj => absurd hj (Nat.not_lt_zero _)))
  have HSO := Lib.hid (fun (W : World) (B : Option Addr) (cb k : Nat) (h : MatP W A n N f) (h' : NumsP W B n (idm k)) => solve_any W A B n c cb K0 N f (idm k) h h' hn hN hK hB hS (fun i _ => by
    unfold idm
    split
    · exact (sz_int (n := 1) (K := 1) (by show ln 1 ≤ 1; rw [ln_one]; omega) (by omega)).mono hK
    · exact sz_int0.mono hK))
  have hid : idn (n : Int) = n := by unfold idn; rw [if_neg (by omega), if_neg (by omega)]; omega
  have HID := Lib.hid (fun (W : World) => identity_mk W (n : Int))
  rw [hid] at HID
  have HM := Lib.hid hM
  have HST := Lib.hid (fun k => stop_same (n := n) f (idm k))
  obtain ⟨st, hst⟩ : ∃ x, x = (elimF n 0 0 f).2.1 := ⟨_, rfl⟩
  have HVL := Lib.hid (show st = -1 ∨ 0 ≤ st by rw [hst]; exact elim_vals n 0 0 f (show 0 + n = n by omega))
  have HS2 := Lib.hid hst
  rw [← hst] at HST
  clear hM hsq hN hK hB hS hid hst
  go_enter Try.func16, Try.ntmps16
  go_wp2_with fail
  refine HSQ.out.mono ?_
  rintro e w1 ⟨rfl, hb⟩
  have HB := Lib.hid hb
  replace HM := Lib.hid (HM.out.to hb)
  clear hb HSQ
  go_wp2_with fail
  refine (HCP.out _ HM.out).mono ?_
  rintro e w2 ⟨gO, rfl, hbld⟩
  have hW := (WkP.of hbld (fun h => h)).cong (f' := f) (fun i k hi hk => (if_pos hk).symm)
  obtain ⟨z, hz⟩ : ∃ z, z = w2.heap.size := ⟨_, rfl⟩
  rw [← hz] at hW
  have HZ := Lib.hid hz
  clear hbld HCP hz
  go_wp2_with fail
  refine (HID.out _).mono ?_
  rintro e w3 ⟨wE, gE, rfl, hbE, hE⟩
  have hb := hbE.trans (hE.below.mono hbE.size)
  have hW2 := (hW.to hb).cong (colsTo_start (g := invF n f))
  have hF0 : FarM z w3 gE n n idm := FarM.of hE (by rw [HZ.out]; exact hbE.size)
  have HB1 := Lib.hid (HB.out)
  clear hW hb hE hbE HID HZ HB
  go_upto_region 5 with fail
  go_loopw [19] (fun i (wr : World) => ∃ k : Nat, k ≤ n ∧ i = .int .i64 k ∧ WkP w1 z gO n n (colsTo (invF n f) f k 0) wr ∧ FarM z wr gE n n idm ∧ Hid (0 < k → st = -1)) (fun i _ => n - (intOf i).toNat)
  case atStart => exact ⟨0, Nat.zero_le _, rfl, hW2, hF0, Lib.hid (fun h => absurd h (by omega))⟩
  case round =>
    obtain ⟨k, hk, rfl, hW, hF, HSk⟩ := hrel
    clear hW2 hF0
    by_cases hkn : k < n
    · obtain ⟨⟨_, hlE⟩, G, g1⟩ := hF
      obtain ⟨hcE, _, g2⟩ := g1 k hkn
      have hNE : NumsP wr (some ⟨G k, 0, none⟩) n (idm k) := fun j hj => ⟨_, rfl, g2 j hj⟩
      have HCL := Lib.hid (HSO.out wr (some ⟨G k, 0, none⟩) n k (HM.out.to hW.below) hNE)
      have hzw := hW.2.1.2
      have i1 : (0 : Int) ≤ (k : Int) := by omega
      have i2 : (k : Int) < (n : Int) := by omega
      have HF := Lib.hid (show FarM z wr gE n n idm from ⟨⟨by assumption, hlE⟩, G, g1⟩)
      have HW := Lib.hid hW
      generalize G k = Gk at *
      clear g1 g2 hW hNE
      go_wp2_with fail
      refine HCL.out.mono ?_
      rintro e w4 (⟨h0, rfl, hb⟩ | ⟨h0, gx, rfl, hx, hgx, hb⟩)
      · have HR : Hid (RetInv w n f (.returned (.tuple #[.slice none 0 0, .int .i64 6])) w4) := Lib.hid (.inl ⟨by rw [← HS2.out, ← HST.out k]; exact h0, rfl, by
          have e1 := HW.out.below
          exact (HB1.out.trans (e1.mono HB1.out.size)).trans (hb.mono (HB1.out.trans (e1.mono HB1.out.size)).size)⟩)
        clear h0 hb HCL HW HF
        go_wp2_with fail
        exact bodyPost_ret (v := .tuple #[.slice none 0 0, .int .i64 6]) (by simp [results, Try.results16, go_sem]) rfl HR.out
      · have HS1 : Hid (st = -1) := Lib.hid (by rw [← HST.out k]; exact h0)
        have hx0 : ∀ i, i < n → PE w4 gx (i * 5) (invF n f i k) := fun i hi => by
          obtain ⟨g', eg, hp⟩ := hx i hi
          injection eg with eg; injection eg with eg
          rw [eg]; exact hp
        have hW0 := HW.out.to hb
        have hF0 := HF.out.to hb
        have hgz : z ≤ gx := Nat.le_trans hzw hgx
        clear h0 hb HCL HW HF hx hgx hzw
        go_upto_region 11 with fail
        go_loopw [35] (fun i (wr : World) => ∃ j : Nat, j ≤ n ∧ i = .int .i64 j ∧ WkP w1 z gO n n (colsTo (invF n f) f k j) wr ∧ FarM z wr gE n n idm ∧ ∀ i, i < n → PE wr gx (i * 5) (invF n f i k)) (fun i _ => n - (intOf i).toNat)
        case atStart => exact ⟨0, Nat.zero_le _, rfl, hW0, hF0, hx0⟩
        case round =>
          obtain ⟨j, hj, rfl, hW, hF, hx⟩ := hrel
          clear hW0 hF0 hx0
          by_cases hjn : j < n
          · obtain ⟨gr, kr, r1, r2, r3, _, hput⟩ := hW.put hjn hkn
            obtain ⟨A1, A2, A3, hcs, hN⟩ := hx j hjn
            have hlg := World.block_lt_of_cell? wr ⟨gx, _, none⟩ hcs.1
            obtain ⟨q, hq⟩ : ∃ q, q = invF n f j k := ⟨_, rfl⟩
            rw [← hq] at hcs hN
            have HNEW := Lib.hid (show colsTo (invF n f) f k (j + 1) j k = q by rw [colsTo_new, hq])
            have hlO := hW.lt
            have HFX := Lib.hid (And.intro hF hx)
            have i3 : (0 : Int) ≤ (j : Int) := by omega
            have i4 : (j : Int) < (n : Int) := by omega
            clear hW hq hF hx
            go_upto_region 13 with fail
            refine wp_region_any (by kernel_rfl) ?_
            refine wpAny_inv (fun l a' w' => ∃ V : Nat → Value, a' = ⟨#[.slice A n c, undef, u2, u3, .slice (some ⟨gO, 0, none⟩) n n, .int .i64 ↑k, .slice (some ⟨Gk, 0, none⟩) n n, .slice (some ⟨gx, 0, none⟩) n n, .int .i64 0, .int .i64 ↑j, .slice A n c, .bool true, .bool false, .slice A n c, .slice (some ⟨gO, 0, none⟩) n n, .slice A n c, .int .i64 ↑n, .slice (some ⟨gE, 0, none⟩) n n, .int .i64 ↑n, .int .i64 ↑k, .bool true, .int .i64 ↑k, .pointer (some ⟨gE, k, none⟩), .slice (some ⟨Gk, 0, none⟩) n n, .tuple #[.slice (some ⟨gx, 0, none⟩) n n, .int .i64 0], .slice A n c, .slice (some ⟨Gk, 0, none⟩) n n, .tuple #[.slice (some ⟨gx, 0, none⟩) n n, .int .i64 0], .slice (some ⟨gx, 0, none⟩) n n, .int .i64 0, .int .i64 0, .bool false, u32, .slice (some ⟨gx, 0, none⟩) n n, .int .i64 ↑n, .int .i64 ↑j, .bool true, .int .i64 ↑j, V 0, V 1, V 2, V 3, V 4, V 5, V 6, V 7, V 8, V 9, u48, u49, undef], []⟩ ∧ OnFix l V (fun zz => List.getD [.slice (some ⟨gO, 0, none⟩) n n, .int .i64 j, .pointer (some ⟨gO, j, none⟩), .slice (some ⟨gr, 0, none⟩) n kr, .int .i64 k, .slice (some ⟨gx, 0, none⟩) n n, .int .i64 j, .pointer (some ⟨gx, j * 5, none⟩), .agg #[.bool (sn (na q)), .slice A1 (ln (ab (na q))) (ln (ab (na q))), .bool (sn (nb q)), .slice A2 (ln (ab (nb q))) (ln (ab (nb q))), .slice A3 (ln (un q)) (ln (un q))], .pointer (some ⟨gr, k * 5, none⟩), undef] zz undef) [0, 1, 2, 3, 4, 5, 6, 7, 8, 9] ∧ Off l 10 (Below wr.heap.size wr w') ∧ On l 10 (WkP w1 z gO n n (colsTo (invF n f) f k (j + 1)) w' ∧ FarM z w' gE n n idm ∧ ∀ i, i < n → PE w' gx (i * 5) (invF n f i k)) ∧ Edg l [(10, 9), (9, 3), (10, 8)] ∧ l.size = 11) ?_ ?_ _ _ _ _ (by decide) ?_
            · intro l a' W' i hi hI
              obtain ⟨V, rfl, hv, hZ, hM0, hE, hz⟩ := hI
              obtain ⟨hlt, hoff, hpre⟩ := ready_pre hi
              have hc : i ∈ [0, 1, 2, 3, 4, 5, 6, 7, 8, 9, 10] := (by decide : ∀ i, i < 11 → i ∈ [0, 1, 2, 3, 4, 5, 6, 7, 8, 9, 10]) i hlt
              simp only [List.mem_cons, List.not_mem_nil, or_false] at hc
              clear hi hlt
              rcases hc with rfl | rfl | rfl | rfl | rfl | rfl | rfl | rfl | rfl | rfl | rfl <;> (have hp := hpre _ rfl; simp [Region.binds] at hp; clear hpre)
              · skip
                have HV := Lib.hid hv
                clear hv
                refine wpOp_go rfl rfl (fun K hK => ?_)
                go_simp
                refine hK _ _ ?_
                exact ⟨_, rfl, HV.out.new (x := .slice (some ⟨gO, 0, none⟩) n n) rfl, hZ.keep, hM0.keep (by decide), hE.mono (by decide), by simp [hz]⟩
              · skip
                have HV := Lib.hid hv
                clear hv
                refine wpOp_go rfl rfl (fun K hK => ?_)
                go_simp
                refine hK _ _ ?_
                exact ⟨_, rfl, HV.out.new (x := .int .i64 j) rfl, hZ.keep, hM0.keep (by decide), hE.mono (by decide), by simp [hz]⟩
              · skip
                have e0 : V 0 = .slice (some ⟨gO, 0, none⟩) n n := hv.get 0 (by decide) (by simp [hp])
                have e1 : V 1 = .int .i64 j := hv.get 1 (by decide) (by simp [hp])
                have HV := Lib.hid ((hv.fixE e0 rfl).fixE e1 rfl)
                clear hv
                simp only [e0, e1]
                refine wpOp_go rfl rfl (fun K hK => ?_)
                go_simp
                refine hK _ _ ?_
                exact ⟨_, rfl, HV.out.new (x := .pointer (some ⟨gO, j, none⟩)) rfl, hZ.keep, hM0.keep (by decide), hE.mono (by decide), by simp [hz]⟩
              · skip
                have e2 : V 2 = .pointer (some ⟨gO, j, none⟩) := hv.get 2 (by decide) (by simp [hp])
                have HV := Lib.hid (hv.fixE e2 rfl)
                clear hv
                simp only [e2]
                have hY := hZ.get (fun h => off hoff (hE.get 9 3 (by decide) (hE.get 10 9 (by decide) h)))
                have z := keepc hY r1 hlO
                refine wpOp_go rfl rfl (fun K hK => ?_)
                go_simp
                refine hK _ _ ?_
                exact ⟨_, rfl, HV.out.new (x := .slice (some ⟨gr, 0, none⟩) n kr) rfl, hZ.keep, hM0.keep (by decide), hE.mono (by decide), by simp [hz]⟩
              · skip
                have HV := Lib.hid hv
                clear hv
                refine wpOp_go rfl rfl (fun K hK => ?_)
                go_simp
                refine hK _ _ ?_
                exact ⟨_, rfl, HV.out.new (x := .int .i64 k) rfl, hZ.keep, hM0.keep (by decide), hE.mono (by decide), by simp [hz]⟩
              · skip
                have HV := Lib.hid hv
                clear hv
                refine wpOp_go rfl rfl (fun K hK => ?_)
                go_simp
                refine hK _ _ ?_
                exact ⟨_, rfl, HV.out.new (x := .slice (some ⟨gx, 0, none⟩) n n) rfl, hZ.keep, hM0.keep (by decide), hE.mono (by decide), by simp [hz]⟩
              · skip
                have HV := Lib.hid hv
                clear hv
                refine wpOp_go rfl rfl (fun K hK => ?_)
                go_simp
                refine hK _ _ ?_
                exact ⟨_, rfl, HV.out.new (x := .int .i64 j) rfl, hZ.keep, hM0.keep (by decide), hE.mono (by decide), by simp [hz]⟩
              · skip
                have e5 : V 5 = .slice (some ⟨gx, 0, none⟩) n n := hv.get 5 (by decide) (by simp [hp])
                have e6 : V 6 = .int .i64 j := hv.get 6 (by decide) (by simp [hp])
                have HV := Lib.hid ((hv.fixE e5 rfl).fixE e6 rfl)
                clear hv
                simp only [e5, e6]
                refine wpOp_go rfl rfl (fun K hK => ?_)
                go_simp
                refine hK _ _ ?_
                exact ⟨_, rfl, HV.out.new (x := .pointer (some ⟨gx, j * 5, none⟩)) rfl, hZ.keep, hM0.keep (by decide), hE.mono (by decide), by simp [hz]⟩
              · skip
                have e7 : V 7 = .pointer (some ⟨gx, j * 5, none⟩) := hv.get 7 (by decide) (by simp [hp])
                have HV := Lib.hid (hv.fixE e7 rfl)
                clear hv
                simp only [e7]
                have hY := hZ.get (fun h => off hoff (hE.get 10 8 (by decide) h))
                obtain ⟨z0, z1, z2, z3, z4⟩ := hcs
                have y0 := keepc hY z0 hlg; have y1 := keepc hY z1 hlg; have y2 := keepc hY z2 hlg; have y3 := keepc hY z3 hlg; have y4 := keepc hY z4 hlg
                refine wpOp_go rfl rfl (fun K hK => ?_)
                go_simp
                refine hK _ _ ?_
                exact ⟨_, rfl, HV.out.new (x := .agg #[.bool (sn (na q)), .slice A1 (ln (ab (na q))) (ln (ab (na q))), .bool (sn (nb q)), .slice A2 (ln (ab (nb q))) (ln (ab (nb q))), .slice A3 (ln (un q)) (ln (un q))]) rfl, hZ.keep, hM0.keep (by decide), hE.mono (by decide), by simp [hz]⟩
              · skip
                have e3 : V 3 = .slice (some ⟨gr, 0, none⟩) n kr := hv.get 3 (by decide) (by simp [hp])
                have e4 : V 4 = .int .i64 k := hv.get 4 (by decide) (by simp [hp])
                have HV := Lib.hid ((hv.fixE e3 rfl).fixE e4 rfl)
                clear hv
                simp only [e3, e4]
                refine wpOp_go rfl rfl (fun K hK => ?_)
                go_simp
                refine hK _ _ ?_
                exact ⟨_, rfl, HV.out.new (x := .pointer (some ⟨gr, k * 5, none⟩)) rfl, hZ.keep, hM0.keep (by decide), hE.step (by simp [hp]), by simp [hz]⟩
              · skip
                have e9 : V 9 = .pointer (some ⟨gr, k * 5, none⟩) := hv.get 9 (by decide) (by simp [hp])
                have e8 : V 8 = .agg #[.bool (sn (na q)), .slice A1 (ln (ab (na q))) (ln (ab (na q))), .bool (sn (nb q)), .slice A2 (ln (ab (nb q))) (ln (ab (nb q))), .slice A3 (ln (un q)) (ln (un q))] := hv.get 8 (by decide) (by simp [hp])
                have HV := Lib.hid ((hv.fixE e9 rfl).fixE e8 rfl)
                clear hv
                simp only [e9, e8]
                have hY := hZ.get (off hoff)
                obtain ⟨⟨u0, u1, u2, u3, u4, d0, d1, d2, d3, d4⟩, ⟨f0, f1, f2, f3, f4⟩, ⟨cb, hcb⟩, hfin⟩ := hput W' hY
                refine wpOp_go rfl rfl (fun K hK => ?_)
                go_simp
                refine hK _ _ ?_
                obtain ⟨XX, hX⟩ : ∃ XX : World, XX = set5o W' gr (k * 5) q A1 A2 A3 := ⟨_, rfl⟩
                have hw : set5o W' gr (k * 5) q A1 A2 A3 = XX := hX.symm
                unfold set5o at hw
                rw [hw]
                subst hX
                exact ⟨_, rfl, HV.out.other (by decide), Off.done (by omega), On.new (⟨hfin _ _ A1 A2 A3 (hN.to hY) HNEW.out (fun a b _ _ h => colsTo_old h), (HFX.out.1.to hY).set5o r3 hcb, fun i hi => ((HFX.out.2 i hi).to hY).set5o (.inl (by omega)) hcb⟩), hE.step (by simp [hp]), by simp [hz]⟩
            · intro l a' W' hr hI
              obtain ⟨V, rfl, hv, hZ, hM0, hE, hz⟩ := hI
              have a0 := not_ready (i := 0) hr hz rfl (by simp [Region.binds])
              have a1 := not_ready (i := 1) hr hz rfl (by simp [Region.binds, a0])
              have a2 := not_ready (i := 2) hr hz rfl (by simp [Region.binds, a0, a1])
              have a3 := not_ready (i := 3) hr hz rfl (by simp [Region.binds, a0, a1, a2])
              have a4 := not_ready (i := 4) hr hz rfl (by simp [Region.binds, a0, a1, a2, a3])
              have a5 := not_ready (i := 5) hr hz rfl (by simp [Region.binds, a0, a1, a2, a3, a4])
              have a6 := not_ready (i := 6) hr hz rfl (by simp [Region.binds, a0, a1, a2, a3, a4, a5])
              have a7 := not_ready (i := 7) hr hz rfl (by simp [Region.binds, a0, a1, a2, a3, a4, a5, a6])
              have a8 := not_ready (i := 8) hr hz rfl (by simp [Region.binds, a0, a1, a2, a3, a4, a5, a6, a7])
              have a9 := not_ready (i := 9) hr hz rfl (by simp [Region.binds, a0, a1, a2, a3, a4, a5, a6, a7, a8])
              have a10 := not_ready (i := 10) hr hz rfl (by simp [Region.binds, a0, a1, a2, a3, a4, a5, a6, a7, a8, a9])
              have hY := hM0.get a10
              clear hr hz hv hZ a0 a1 a2 a3 a4 a5 a6 a7 a8 a9 a10 hM0 hE
              go_wp2_with fail
              go_roundw
              case rel => exact ⟨j + 1, by omega, by go_num, hY.1, hY.2.1, hY.2.2⟩
              case measure => simp [intOf]; omega
            · exact ⟨fun zz => List.getD [u38, u39, u40, u41, u42, u43, u44, u45, u46, u47, undef] zz undef, rfl, OnFix.start, Off.new (((Below.refl _ _).drew)), fun h => absurd h (by decide), Edg.start, by simp⟩
          · obtain rfl : j = n := by omega
            have HW5 := Lib.hid (hW.cong colsTo_next)
            have HF5 := Lib.hid hF
            clear hW hF hx
            go_wp2_with fail
            go_roundw
            case rel => exact ⟨k + 1, by omega, by go_num, HW5.out, HF5.out, Lib.hid (fun _ => HS1.out)⟩
            case measure => simp [intOf]; omega
    · obtain rfl : k = n := by omega
      have hs1 : st = -1 := by
        by_cases h : 0 < k
        · exact HSk.out h
        · obtain rfl : k = 0 := by omega
          rw [HS2.out]; rfl
      have HR : Hid (RetInv w k f (.returned (.tuple #[.slice (some ⟨gO, 0, none⟩) k k, .int .i64 0])) wr) := Lib.hid (.inr ⟨by rw [← HS2.out]; exact hs1, gO, rfl, (hW.cong colsTo_end).mat, HB1.out.trans (hW.below.mono HB1.out.size)⟩)
      clear hs1 hW hF
      go_wp2_with fail
      exact bodyPost_ret (v := .tuple #[.slice (some ⟨gO, 0, none⟩) k k, .int .i64 0]) (by simp [results, Try.results16, go_sem]) rfl HR.out
end Go.Proofs.Ytdpjknjlhchmcaa

namespace Go.Proofs.Ytdpjknjlhchmcaa
open Go.RowKit Pl
set_option linter.unusedVariables false
set_option linter.unusedSimpArgs false
theorem dot_rsum {f g : Nat → Nat → Cx} {i k : Nat} : ∀ j, dotC f g i k j = rsum f (fun l => g l k) i j := by
  intro j
  induction j with
  | zero => rfl
  | succ j ih => simp only [dotC, rsum, ih]
theorem dot_congr {f f' g g' : Nat → Nat → Cx} {i k : Nat} : ∀ j, (∀ l, l < j → f i l = f' i l ∧ g l k = g' l k) → dotC f g i k j = dotC f' g' i k j := by
  intro j
  induction j with
  | zero => intro _; rfl
  | succ j ih => intro h; simp only [dotC]; rw [ih fun l hl => h l (by omega), (h j (by omega)).1, (h j (by omega)).2]
theorem dot_lin {a h : Nat → Nat → Cx} {b : Nat → Cx} {c : Cx} {i k m : Nat} {g : Nat → Nat → Cx} (hb : ∀ l, b l = g m l) : ∀ n, dotC (fun i l => (a i l).add (c.mul (b l))) h i k n = (dotC a h i k n).add (c.mul (dotC g h m k n)) := by
  intro n
  induction n with
  | zero => simp only [dotC]; rw [mul_zero_c, add_zero_c]
  | succ n ih =>
    simp only [dotC]
    rw [ih, hb n]
    refine Cx.ext' ?_ ?_ <;> simp only [Cx.add, Cx.mul] <;> grind
/-- Products of three matrices. -/
theorem dot_assoc {f g h : Nat → Nat → Cx} {i k n : Nat} : ∀ m, dotC f (fun j k => dotC g h j k n) i k m = dotC (fun i l => dotC f g i l m) h i k n := by
  intro m
  induction m with
  | zero =>
    show Cx.zero = _
    exact (dot_zero n fun l _ => rfl).symm
  | succ m ih =>
    show (dotC f (fun j k => dotC g h j k n) i k m).add ((f i m).mul (dotC g h m k n)) = _
    rw [ih]
    rw [← dot_lin (a := fun i l => dotC f g i l m) (h := h) (b := fun l => g m l) (c := f i m) (g := g) (m := m) (i := i) (k := k) (fun l => rfl) n]
    exact dot_row (show (fun l => (dotC f g i l m).add ((f i m).mul (g m l))) = fun l => dotC f g i l (m + 1) from rfl) k n
theorem idm_ne {i k : Nat} (h : i ≠ k) : idm i k = Cx.zero := by unfold idm; rw [if_neg h]; rfl
theorem idm_eq {i : Nat} : idm i i = Cx.ofInt 1 := if_pos rfl
theorem idm_comm (i k : Nat) : idm i k = idm k i := by
  unfold idm
  by_cases h : i = k
  · rw [if_pos h, if_pos h.symm]
  · rw [if_neg h, if_neg (Ne.symm h)]
theorem dot_idl {f : Nat → Nat → Cx} {i k n : Nat} (hi : i < n) : dotC idm f i k n = f i k := by
  rw [dot_one (n := n) (fun l _ hne => idm_ne hne) n (Nat.le_refl n), if_pos hi, idm_eq, one_mul_c]
theorem dot_idr {f : Nat → Nat → Cx} {i k : Nat} : ∀ j, dotC f idm i k j = if k < j then f i k else Cx.zero := by
  intro j
  induction j with
  | zero => rw [if_neg (by omega)]; rfl
  | succ j ih =>
    simp only [dotC]
    rw [ih]
    by_cases e : k = j
    · subst e; rw [if_neg (by omega), if_pos (by omega), idm_eq, mul_one_c, zero_add_c]
    · rw [idm_ne (by omega), mul_zero_c, add_zero_c]
      by_cases h : k < j
      · rw [if_pos h, if_pos (by omega)]
      · rw [if_neg h, if_neg (by omega)]
/-- What 'Solve' computes solves the system. -/
theorem solve_dot {n : Nat} {f : Nat → Nat → Cx} (q : Nat → Cx) (h : (elimF n 0 0 f).2.1 = -1) : ∀ i, i < n → rsum f (back (elimF n 0 0 (beside n f fun _ i => q i)).2.2 n n) i n = q i := by
  intro i hi
  have hs := (solve_plain (n := n) (F := beside n f fun _ i => q i) ((stop_same f q).trans h)).1 i hi
  rw [rsum_row (f' := f) (i' := i) n (fun k hk => if_pos hk)] at hs
  rw [hs]
  unfold beside
  rw [if_neg (by omega)]
theorem solve_uniq {n : Nat} {f : Nat → Nat → Cx} (q y z : Nat → Cx) (h : (elimF n 0 0 f).2.1 = -1) (hy : ∀ i, i < n → rsum f y i n = q i) (hz : ∀ i, i < n → rsum f z i n = q i) : ∀ i, i < n → y i = z i := by
  have hu := (solve_plain (n := n) (F := beside n f fun _ i => q i) ((stop_same f q).trans h)).2
  have sol : ∀ x : Nat → Cx, (∀ i, i < n → rsum f x i n = q i) → Sol n (beside n f fun _ i => q i) x := by
    intro x hx i hi
    rw [rsum_row (f' := f) (i' := i) n (fun k hk => if_pos hk), hx i hi]
    unfold beside
    rw [if_neg (by omega)]
  intro i hi
  rw [hu y (sol y hy) i hi, hu z (sol z hz) i hi]
/-- The product with the inverse. -/
theorem inv_right {n : Nat} {f : Nat → Nat → Cx} (h : (elimF n 0 0 f).2.1 = -1) : ∀ i k, i < n → dotC f (invF n f) i k n = idm i k := by
  intro i k hi
  rw [dot_rsum, idm_comm]
  exact solve_dot (idm k) h i hi
theorem inv_left {n : Nat} {f : Nat → Nat → Cx} (h : (elimF n 0 0 f).2.1 = -1) : ∀ i k, i < n → k < n → dotC (invF n f) f i k n = idm i k := by
  intro i k hi hk
  refine solve_uniq (n := n) (f := f) (fun i => f i k) (fun i => dotC (invF n f) f i k n) (fun i => idm i k) h (fun i hi => ?_) (fun i hi => ?_) i hi
  · rw [← dot_rsum (g := fun j k => dotC (invF n f) f j k n), dot_assoc]
    rw [dot_congr (f' := idm) (g' := f) n (fun l hl => ⟨inv_right h i l hi, rfl⟩)]
    exact dot_idl hi
  · rw [← dot_rsum (g := idm), dot_idr, if_pos hk]
end Go.Proofs.Ytdpjknjlhchmcaa

namespace Go.Proofs.Ytdpjknjlhchmcaa
open Go.RowKit Pl
set_option linter.unusedVariables false
set_option linter.unusedSimpArgs false
/-- Two rows are exchanged, or one with itself. -/
theorem WkP.swap2 {w0 W : World} {z gO n m p c : Nat} {f : Nat → Nat → Cx} (h : WkP w0 z gO n m f W) (hp : p < n) (hc : c < n) :
    ∃ gp kp gc kc, W.cell? ⟨gO, p, none⟩ = some (.slice (some ⟨gp, 0, none⟩) m kp) ∧ W.cell? ⟨gO, c, none⟩ = some (.slice (some ⟨gc, 0, none⟩) m kc) ∧ ∀ w, Below W.heap.size W w →
      w.cell? ⟨gO, p, none⟩ = some (.slice (some ⟨gp, 0, none⟩) m kp) ∧ w.frozen? ⟨gO, p, none⟩ = false ∧ SwpM w0 z gO n m c gp kp (swp p c f) (w.setCell ⟨gO, p, none⟩ (.slice (some ⟨gc, 0, none⟩) m kc)) := by
  by_cases hpc : p = c
  · subst hpc
    have hW := h
    obtain ⟨h1, h2, _, ⟨G, K, h4, h6⟩, _⟩ := hW
    have hl : gO < W.heap.size := Nat.lt_of_lt_of_le h2.1 h2.2
    refine ⟨G p, K p, G p, K p, (h4 p hp).1, (h4 p hp).1, fun w hb => ?_⟩
    obtain ⟨k1, k2, ⟨F, k3⟩, _, k7⟩ := h.to hb
    have r4 : ∀ i, i < n → w.cell? ⟨gO, i, none⟩ = some (.slice (some ⟨G i, 0, none⟩) m (K i)) ∧ RowB w (G i) 34 (K i * 5) ∧ ∀ k, k < m → PE w (G i) (k * 5) (f i k) := fun i hi => by
      obtain ⟨a1, a2, a3, a4, a5, a6, a7⟩ := h4 i hi
      exact ⟨keepc hb a1 hl, a6.to hb, fun k hk => (a7 k hk).to hb⟩
    have s0 := (r4 0 (by omega)).1
    have up := (r4 p hp).1
    have hS1 : ∃ (S : Option Addr) (a b : Nat), (w.setCell ⟨gO, p, none⟩ (.slice (some ⟨G p, 0, none⟩) m (K p))).cell? ⟨gO, 0, none⟩ = some (.slice S a b) := by
      by_cases e : p = 0
      · subst e; exact ⟨_, _, _, cell_self up⟩
      · exact ⟨_, _, _, keepo s0 (.inr (by omega))⟩
    obtain ⟨S, sa, sb, hS1⟩ := hS1
    refine ⟨up, k3.frozen p, ⟨_, cell_self up⟩, by rw [keepof (k3.frozen p)], k1, ⟨k2.1, by simpa [World.setCell] using k2.2⟩, ⟨_, (k3.set _ _).set _ _⟩, ⟨G, K, fun i hi => ?_, h6⟩, (k7.setCell (by exact k1) _).setCell (by exact k1) _⟩
    rw [swp_self]
    obtain ⟨a1, a2, a3, a4, a5, a6, a7⟩ := h4 i hi
    obtain ⟨b1, b2, b3⟩ := r4 i hi
    refine ⟨?_, a2, a3, a4, a5, ?_, fun k hk => ((b3 k hk).setS a3 s0).setS a3 hS1⟩
    · by_cases e : i = p
      · subst e; exact cell_self (cell_self b1)
      · exact keepo (keepo b1 (.inr (by omega))) (.inr (by omega))
    · obtain ⟨⟨F2, q1⟩, cc, q2⟩ := b2
      exact ⟨⟨F2, (q1.setOther (a := ⟨gO, p, none⟩) a3 _).setOther (a := ⟨gO, p, none⟩) a3 _⟩, cc, keepo (keepo q2 (.inl a3)) (.inl a3)⟩
  · exact h.swap hp hc hpc
theorem rclos_any (w : World) (g m k gC t : Nat) (x : Cx) (hp : PE w g (t * 5) x) (hC : w.cell? ⟨gC, 0, none⟩ = some (.int .i64 t)) (ht : t < m) (hz : sz 1099511627776 x) {b : Bool} (hb : (!decide (x = Cx.zero)) = b) :
    Calls Try.prog 46 #[.slice (some ⟨g, 0, none⟩) m k, .pointer (some ⟨gC, 0, none⟩)] w (RetBool w b) := by
  obtain ⟨A1, A2, A3, ⟨y0, y1, y2, y3, y4⟩, hN⟩ := hp
  have i1 : (0 : Int) ≤ (t : Int) := by omega
  have i2 : (t : Int) < (m : Int) := by omega
  have HB := Lib.hid hb
  clear hb
  go_enter Try.func46, Try.ntmps46
  go_wp2_with fail
  refine (clear_to x A1 A2 A3 _ hN hz HB.out).mono ?_
  rintro e w1 ⟨rfl, hb⟩
  go_wp2_with fail
  go_ret
  exact ⟨rfl, hb⟩
set_option maxHeartbeats 4000000 in
theorem rindex_any (w : World) (A : Option Addr) (n c m gC t : Nat) (f : Nat → Nat → Cx) (hM : MatP w A n (fun _ => m) f) (hC : w.cell? ⟨gC, 0, none⟩ = some (.int .i64 t)) (ht : t < m) (hn : n ≤ 1000) (hz : ∀ i, i < n → sz 1099511627776 (f i t)) :
    Calls Try.prog 45 #[.slice A n c, .func (.func 46) #[] #[.pointer (some ⟨gC, 0, none⟩)]] w (fun e w' => ∃ r : Int, e = .returned (.int .i64 r) ∧ ((r = -1 ∧ ∀ i, i < n → f i t = Cx.zero) ∨ ∃ p : Nat, p < n ∧ r = p ∧ f p t ≠ Cx.zero ∧ ∀ i, i < p → f i t = Cx.zero) ∧ Below w.heap.size w w') := by
  have HM := Lib.hid hM
  have HC := Lib.hid hC
  have HZ := Lib.hid hz
  have hlC : gC < w.heap.size := World.block_lt_of_cell? w ⟨gC, _, none⟩ hC
  clear hM hC hz
  go_enter Try.func45, Try.ntmps45
  go_wp2_with fail
  go_loopw [8] (fun i (wr : World) => ∃ k : Nat, k ≤ n ∧ i = .int .i64 k ∧ Below w.heap.size w wr ∧ Hid (∀ i, i < k → f i t = Cx.zero)) (fun i _ => n - (intOf i).toNat)
  case atStart => exact ⟨0, Nat.zero_le _, rfl, Below.refl _ _, Lib.hid (fun i hi => absurd hi (Nat.not_lt_zero _))⟩
  case round =>
    obtain ⟨k, hk, rfl, hb, HA⟩ := hrel
    by_cases hlt : k < n
    · obtain ⟨R, K, g1, g2⟩ := HM.out.to hb
      obtain ⟨b, fo, rfl, hl, d0⟩ := g1 k hlt
      obtain ⟨g, eg, hp⟩ := g2 k hlt t ht
      rw [eg] at d0
      have hcc := keepc hb HC.out hlC
      have HB := Lib.hid hb
      by_cases h0 : f k t = Cx.zero
      · have HCL := Lib.hid (rclos_any wr g m (K k) gC t (f k t) hp hcc ht (HZ.out k hlt) (la13 h0))
        have H0 := Lib.hid h0
        generalize K k = kk at *
        clear g1 g2 eg hp hb h0 hcc
        go_wp2_with fail
        refine HCL.out.mono ?_
        rintro e w1 ⟨rfl, hb1⟩
        go_wp2_with fail
        go_roundw
        case rel => exact ⟨k + 1, by omega, by go_num, HB.out.trans (hb1.mono HB.out.size), Lib.hid (fun i hi => by
          by_cases e : i = k
          · rw [e]; exact H0.out
          · exact HA.out i (by omega))⟩
        case measure => simp [intOf]; omega
      · have HCL := Lib.hid (rclos_any wr g m (K k) gC t (f k t) hp hcc ht (HZ.out k hlt) (la14 h0))
        have H0 := Lib.hid h0
        generalize K k = kk at *
        clear g1 g2 eg hp hb h0 hcc
        go_wp2_with fail
        refine HCL.out.mono ?_
        rintro e w1 ⟨rfl, hb1⟩
        go_wp2_with fail
        go_ret
        exact ⟨k, rfl, .inr ⟨k, hlt, rfl, H0.out, HA.out⟩, HB.out.trans (hb1.mono HB.out.size)⟩
    · obtain rfl : k = n := by omega
      go_wp2_with fail
      go_ret
      exact ⟨-1, rfl, .inl ⟨rfl, HA.out⟩, hb⟩
/-- Rows below i are done; of row i the columns below j. -/
def lrTo (r c : Nat) (g : Nat → Nat → Cx) (i : Nat) : Nat → Nat → Cx := fun a b => if a < i then lowR r c g a b else g a b
def lrAt (r c : Nat) (g : Nat → Nat → Cx) (i j : Nat) : Nat → Nat → Cx := fun a b => if a < i ∨ (a = i ∧ b < j) then lowR r c g a b else g a b
theorem lrTo_start {r c n m : Nat} {g : Nat → Nat → Cx} : ∀ a b, a < n → b < m → lrTo r c g (r + 1) a b = g a b := by
  intro a b _ _
  unfold lrTo lowR
  split
  · rw [if_neg (by omega)]
  · rfl
theorem lrTo_end {r c n m : Nat} {g : Nat → Nat → Cx} : ∀ a b, a < n → b < m → lowR r c g a b = lrTo r c g n a b := by
  intro a b ha _
  unfold lrTo
  rw [if_pos ha]
theorem lrAt_start {r c n m i : Nat} {g : Nat → Nat → Cx} : ∀ a b, a < n → b < m → lrAt r c g i c a b = lrTo r c g i a b := by
  intro a b _ _
  unfold lrAt lrTo
  by_cases h : a < i
  · rw [if_pos (.inl h), if_pos h]
  · rw [if_neg h]
    split
    · unfold lowR; rw [if_neg (by omega)]
    · rfl
theorem lrAt_end {r c n m i : Nat} {g : Nat → Nat → Cx} : ∀ a b, a < n → b < m → lrTo r c g (i + 1) a b = lrAt r c g i m a b := by
  intro a b _ hb
  unfold lrAt lrTo
  by_cases h : a < i + 1
  · rw [if_pos h, if_pos (by omega)]
  · rw [if_neg h, if_neg (by omega)]
theorem lrAt_r {r c i j b : Nat} {g : Nat → Nat → Cx} (hi : r < i) : lrAt r c g i j r b = g r b := by
  unfold lrAt
  rw [if_pos (.inl hi)]
  exact if_neg (fun h => Nat.lt_irrefl _ h.1)
theorem lrTo_r {r c i b : Nat} {g : Nat → Nat → Cx} (hi : r < i) : lrTo r c g i r b = g r b := by
  unfold lrTo
  rw [if_pos hi]
  exact if_neg (fun h => Nat.lt_irrefl _ h.1)
theorem lrTo_i {r c i b : Nat} {g : Nat → Nat → Cx} : lrTo r c g i i b = g i b := if_neg (Nat.lt_irrefl i)
theorem lrAt_i {r c i j : Nat} {g : Nat → Nat → Cx} : lrAt r c g i j i j = g i j := if_neg (by omega)
theorem lrAt_new {r c i j : Nat} {g : Nat → Nat → Cx} (hi : r < i) (hj : c ≤ j) : lrAt r c g i (j + 1) i j = (g i j).sub (((g i c).div (g r c)).mul (g r j)) := by
  unfold lrAt
  rw [if_pos (.inr ⟨rfl, Nat.lt_succ_self j⟩)]
  exact if_pos ⟨hi, hj⟩
theorem lrAt_old {r c i j a b : Nat} {g : Nat → Nat → Cx} (h : ¬ (a = i ∧ b = j)) : lrAt r c g i (j + 1) a b = lrAt r c g i j a b := by
  unfold lrAt
  by_cases e : a < i ∨ (a = i ∧ b < j)
  · rw [if_pos e, if_pos (by omega)]
  · rw [if_neg e, if_neg (by omega)]
theorem sz_lowR {K r c n m : Nat} {f : Nat → Nat → Cx} (hK : 1 ≤ K) (hr : r < n) (hc : c < m) (h0 : f r c ≠ Cx.zero) (h : ∀ i k, i < n → k < m → sz K (f i k)) : ∀ i k, i < n → k < m → sz (6 * K + 4) (lowR r c f i k) := by
  intro i k hi hk
  unfold lowR
  split
  · exact (sz_sub2 (h i k hi hk) (sz_mul2 (sz_div2 hK (h i c hi hc) (h r c hr hc) h0) (h r k hr hk))).mono (by omega)
  · exact (h i k hi hk).mono (by omega)
theorem swp_piv2 {p c k : Nat} {f : Nat → Nat → Cx} : swp p c f c k = f p k := by
  unfold swp
  by_cases e : c = p
  · rw [if_pos e, e]
  · rw [if_neg e, if_pos rfl]
theorem WkP.ne {w0 w : World} {z gO n m i g c : Nat} {f : Nat → Nat → Cx} (h : WkP w0 z gO n m f w) (hi : i < n) (hc : w.cell? ⟨gO, i, none⟩ = some (.slice (some ⟨g, 0, none⟩) m c)) : g ≠ gO ∧ g < z := by
  obtain ⟨_, _, _, ⟨G, K, h4, _⟩, _⟩ := h
  obtain ⟨a1, a2, a3, a4, _⟩ := h4 i hi
  rw [hc] at a1
  injection a1 with a1; injection a1 with a1; injection a1 with a1; injection a1 with a1
  subst a1
  exact ⟨a3, a4⟩
def RetRank (w : World) (r : Nat) (e : Ending) (w' : World) : Prop := e = .returned (.tuple #[.int .i64 r, .int .i64 0]) ∧ Below w.heap.size w w'
set_option maxRecDepth 100000 in
set_option maxHeartbeats 40000000 in
theorem rank_any (w : World) (A : Option Addr) (n m cA K0 : Nat) (N : Nat → Nat) (f : Nat → Nat → Cx) (hM : MatP w A n N f) (hn : n ≤ 5) (hm : m ≤ 5) (hN : ∀ i, i < n → N i = m) (hmc : colN n N = m) (h0 : 0 < n → 0 < m) (hK : 1 ≤ K0) (hB : bd K0 n + 8 ≤ 137438953472) (hS : ∀ i k, i < n → k < m → sz K0 (f i k)) :
    Calls Try.prog 15 #[.slice A n cA] w (RetRank w (rankF n m 0 0 f)) := by
  have hV : Valid n N := by
    unfold Valid
    by_cases h : n = 0
    · exact .inl h
    · have h0 := hN 0 (by omega)
      exact .inr ⟨by omega, by omega, fun i hi => by rw [hN i hi, h0]⟩
  have HM := Lib.hid hM
  obtain ⟨RR, KK, hG, _⟩ := hM
  have HCO := Lib.hid (columns_any w A n cA RR N KK hG (by omega) (fun i hi => by rw [hN i hi]; omega) true ⟨fun _ => hV, fun _ => rfl⟩)
  rw [hmc] at HCO
  have HCP := Lib.hid (fun (W : World) (h : MatP W A n N f) => copied_any W A .none n cA m 0 0 (fun _ => 0) f f (h.congN hN) (MatP.none W _ _) (by omega) (by omega) (by omega) h0 (fun j hj => absurd hj (Nat.not_lt_zero _)))
  have H0 := Lib.hid h0
  obtain ⟨R, hR⟩ : ∃ R, R = rankF n m 0 0 f := ⟨_, rfl⟩
  rw [← hR]
  have HR0 : Hid (rankF n (m - 0) 0 0 f = R) := Lib.hid (by rw [Nat.sub_zero]; exact hR.symm)
  have HS0 := Lib.hid (show ∀ i k, i < n → k < m → sz (bd K0 0) (f i k) from hS)
  have HBD := Lib.hid (fun c (h : c < n) => show 6 * bd K0 c + 4 + 8 ≤ 137438953472 from Nat.le_trans (Nat.add_le_add_right (bd_mono K0 (c + 1) n h) 8) hB)
  have HBE := Lib.hid (fun c (h : c ≤ n) => Nat.le_trans (Nat.add_le_add_right (bd_mono K0 c n h) 8) hB)
  have HK1 := Lib.hid (fun c => Nat.le_trans hK (bd_le K0 c))
  clear hV hG hN hmc h0 hR hK hB hS
  go_enter Try.func15, Try.ntmps15
  go_wp2_with fail
  refine HCO.out.mono ?_
  rintro e w1 ⟨rfl, hb⟩
  have HB := Lib.hid hb
  have HM1 := Lib.hid (HM.out.to hb)
  clear hb HCO HM
  go_wp2_with fail
  refine (HCP.out _ HM1.out).mono ?_
  rintro e w2 ⟨gO, rfl, hbld⟩
  have hW := (WkP.of hbld H0.out).cong (f' := f) (fun i k hi hk => (if_pos hk).symm)
  generalize w2.heap.size = z at *
  clear hbld HCP HM1 H0
  go_upto_region 7 with fail
  go_loopw [6, 24] (fun sv i (wr : World) => ∃ (c r : Nat) (h : Nat → Nat → Cx), c ≤ m ∧ r ≤ n ∧ sv = .int .i64 r ∧ i = .int .i64 c ∧ Hid (rankF n (m - c) c r h = R) ∧ Hid (∀ i k, i < n → k < m → sz (bd K0 r) (h i k)) ∧ WkP w1 z gO n m h wr) (fun _ i _ => m - (intOf i).toNat)
  case atStart => exact ⟨0, 0, f, Nat.zero_le _, Nat.zero_le _, rfl, rfl, HR0, HS0, hW⟩
  case round =>
    obtain ⟨c, r, h, hc, hrn, rfl, rfl, HR, HS, hW⟩ := hrel
    clear HR0 HS0
    by_cases hcm : c < m
    · have HW := Lib.hid hW
      have hlO := hW.lt
      have i1 : (0 : Int) ≤ (r : Int) := by omega
      have i2 : (r : Int) ≤ (n : Int) := by omega
      clear hW
      go_upto_region 9 with fail
      obtain ⟨w5, hw5⟩ : ∃ X : World, X = wr.alloc (.cells #[.int .i64 c] 3) := ⟨_, rfl⟩
      have hal : Below wr.heap.size wr (wr.alloc (.cells #[.int .i64 c] 3)) := (Below.refl _ _).alloc (Nat.le_refl _) _
      have hcell : (wr.alloc (.cells #[.int .i64 c] 3)).cell? ⟨wr.heap.size, 0, none⟩ = some (.int .i64 c) := by go_simp
      rw [← hw5] at hal hcell ⊢
      obtain ⟨gC, hgC⟩ : ∃ g, g = wr.heap.size := ⟨_, rfl⟩
      rw [← hgC] at hcell ⊢
      have hzC : z ≤ gC := by rw [hgC]; exact HW.out.2.1.2
      have hW5 := HW.out.to hal
      have hlC : gC < w5.heap.size := World.block_lt_of_cell? w5 ⟨gC, _, none⟩ hcell
      have HW5 := Lib.hid hW5
      by_cases hrn2 : r = n
      · have HIX := Lib.hid (fun (A : Option Addr) (cc : Nat) => rindex_any w5 A 0 cc m gC c h ⟨fun _ => .none, fun _ => 0, fun i hi => absurd hi (Nat.not_lt_zero _), fun i hi => absurd hi (Nat.not_lt_zero _)⟩ hcell hcm (by omega) (fun i hi => absurd hi (Nat.not_lt_zero _)))
        have HR2 : Hid (rankF n (m - (c + 1)) (c + 1) r h = R) := Lib.hid (by
          exact (rank_skip (n := n) (d := m - c) (c := c) (r := r) (f := h) (by omega) (piv_eq (p := n) hrn (by omega) (fun q h1 h2 => by omega) (fun h => by omega))).symm.trans HR.out)
        subst hrn2
        clear hal hgC HW hlO hW5 hw5 HR i1 i2
        have i1 : (0 : Int) ≤ (r : Int) := by omega
        go_wp2_with fail
        refine (HIX.out _ _).mono ?_
        rintro e w6 ⟨p, rfl, hpp, hb⟩
        have HW6 := Lib.hid (HW5.out.to hb)
        clear hb HIX HW5 hcell hlC
        obtain ⟨rfl, _⟩ : p = -1 ∧ True := by
          rcases hpp with ⟨h1, _⟩ | ⟨p', h1, _⟩
          · exact ⟨h1, trivial⟩
          · exact absurd h1 (Nat.not_lt_zero _)
        clear hpp
        go_wp2_with fail
        go_roundw
        case rel => exact ⟨c + 1, r, h, by omega, Nat.le_refl _, rfl, by go_num, HR2, HS, HW6.out⟩
        case measure => simp [intOf]; omega
      have hrlt : r < n := by omega
      have hdr := hW5.mat.drop (t := r)
      rw [Nat.zero_add] at hdr
      have HIX := Lib.hid (rindex_any w5 (some ⟨gO, r, none⟩) (n - r) (n - r) m gC c (fun i => h (r + i)) hdr hcell hcm (by omega) (fun i hi => (HS.out (r + i) c (by omega) hcm).mono (by have := HBE.out r hrn; omega)))
      clear hw5 hal hgC hdr HW hlO hW5 hrn2
      go_wp2_with fail
      refine HIX.out.mono ?_
      rintro e w6 ⟨p, rfl, hpp, hb⟩
      have hW6 := HW5.out.to hb
      have hc6 := keepc hb hcell hlC
      have hl6 := Nat.lt_of_lt_of_le hlC hb.size
      clear hb HIX HW5 hcell hlC
      rcases hpp with ⟨rfl, hz⟩ | ⟨p, hpn, rfl, hnz, hz⟩
      · have HR2 : Hid (rankF n (m - (c + 1)) (c + 1) r h = R) := Lib.hid (by
          exact (rank_skip (n := n) (d := m - c) (c := c) (r := r) (f := h) (by omega) (piv_eq (p := n) hrn (by omega) (fun q h1 h2 => by
            have := hz (q - r) (by omega)
            rwa [show r + (q - r) = q by omega] at this) (fun h => by omega))).symm.trans HR.out)
        have HW6 := Lib.hid hW6
        clear hz hW6 HR
        go_wp2_with fail
        go_roundw
        case rel => exact ⟨c + 1, r, h, by omega, hrn, rfl, by go_num, HR2, HS, HW6.out⟩
        case measure => simp [intOf]; omega
      · have hrp : r + p < n := by omega
        have hpv : piv h c (n - r) r = r + p := piv_eq (by omega) (by omega) (fun q h1 h2 => by
          have := hz (q - r) (by omega)
          rwa [show r + (q - r) = q by omega] at this) (fun _ => hnz)
        obtain ⟨g', hg'⟩ : ∃ g, g = swp (r + p) r h := ⟨_, rfl⟩
        have HRR : Hid (rankF n (m - (c + 1)) (c + 1) (r + 1) (lowR r c g') = R) := Lib.hid (by
          rw [hg']; exact (rank_next (n := n) (d := m - c) (c := c) (r := r) (f := h) (by omega) hpv (by omega)).symm.trans HR.out)
        have HGZ : Hid (g' r c ≠ Cx.zero) := Lib.hid (by rw [hg', swp_piv2]; exact hnz)
        have HGS : Hid (∀ i k, i < n → k < m → sz (bd K0 r) (g' i k)) := Lib.hid (by rw [hg']; exact sz_swp hrp (by omega) HS.out)
        obtain ⟨gp, kp, gc2, kc2, hp1', hc1', hsw⟩ := hW6.swap2 (p := r) (c := r + p) (by omega) hrp
        rw [swp_comm, ← hg'] at hsw
        obtain ⟨rp, hrpe⟩ : ∃ x, x = r + p := ⟨_, rfl⟩
        rw [← hrpe] at hc1' hsw hrp
        have q1 : (r : Int) + (p : Int) = (rp : Int) := by omega
        have q2 := wrapi_nat (a := rp) (by omega)
        have hOz := hW6.2.1.1
        have i3 : (0 : Int) ≤ (rp : Int) := by omega
        have i4 : (rp : Int) < (n : Int) := by omega
        have i5 : (r : Int) < (n : Int) := by omega
        have hlO := hW6.lt
        have H6 := Lib.hid (And.intro hc6 hl6)
        have hr2 : r < n := by omega
        clear hz hnz hpv hg' hW6 HR HS hrpe hpn hc6 hl6
        go_upto_region 11 with fail
        refine wp_region_any (by kernel_rfl) ?_
        refine wpAny_inv (fun l a' w' => ∃ V : Nat → Value, a' = ⟨List.toArray (.slice (some ⟨gO, 0, none⟩) n n :: undef :: .int .i64 0 :: .int .i64 0 :: .int .i64 ↑m :: .bool true :: .int .i64 ↑r :: .pointer (some ⟨gC, 0, none⟩) :: .int .i64 ↑p :: undef :: u10 :: u11 :: u12 :: u13 :: .tuple #[.int .i64 ↑m, .bool true] :: .slice A n cA :: .tuple #[.int .i64 ↑m, .bool true] :: .int .i64 ↑m :: .bool true :: .bool true :: .bool false :: .slice A n cA :: .slice (some ⟨gO, 0, none⟩) n n :: .int .i64 ↑m :: .int .i64 ↑c :: .bool true :: .int .i64 ↑c :: .slice (some ⟨gO, 0, none⟩) n n :: .int .i64 ↑r :: .slice (some ⟨gO, r, none⟩) (n - r) (n - r) :: .func (Fn.func 46) #[] #[.pointer (some ⟨gC, 0, none⟩)] :: .int .i64 ↑p :: .int .i64 ↑p :: .bool (decide (↑p < 0)) :: V 0 :: V 1 :: V 2 :: V 3 :: V 4 :: V 5 :: V 6 :: V 7 :: V 8 :: V 9 :: V 10 :: V 11 :: V 12 :: V 13 :: V 14 :: V 15 :: V 16 :: V 18 :: u52 :: u53 :: u54 :: u55 :: u56 :: u57 :: u58 :: u59 :: u60 :: u61 :: u62 :: u63 :: u64 :: u65 :: u66 :: u67 :: u68 :: u69 :: u70 :: u71 :: u72 :: u73 :: u74 :: u75 :: u76 :: u77 :: u78 :: u79 :: u80 :: u81 :: u82 :: u83 :: u84 :: u85 :: u86 :: u87 :: u88 :: u89 :: u90 :: u91 :: u92 :: u93 :: u94 :: u95 :: u96 :: u97 :: u98 :: u99 :: u100 :: u101 :: u102 :: undef :: []), []⟩ ∧ OnFix l V (fun zz => List.getD [.slice (some ⟨gO, 0, none⟩) n n, .int .i64 r, .slice (some ⟨gO, 0, none⟩) n n, .int .i64 r, .int .i64 p, .int .i64 rp, .slice (some ⟨gO, 0, none⟩) n n, .int .i64 r, .int .i64 p, .int .i64 rp, .pointer (some ⟨gO, rp, none⟩), .slice (some ⟨gc2, 0, none⟩) m kc2, .slice (some ⟨gO, 0, none⟩) n n, .int .i64 r, .pointer (some ⟨gO, r, none⟩), .slice (some ⟨gp, 0, none⟩) m kp, .pointer (some ⟨gO, r, none⟩), undef, .pointer (some ⟨gO, rp, none⟩), undef] zz undef) [0, 1, 2, 3, 4, 5, 6, 7, 8, 9, 10, 11, 12, 13, 14, 15, 16, 18] ∧ Off l 17 (Below w6.heap.size w6 w') ∧ On l 17 (Off l 19 (SwpM w1 z gO n m rp gp kp g' w' ∧ w'.cell? ⟨gC, 0, none⟩ = some (.int .i64 c) ∧ gC < w'.heap.size)) ∧ On l 19 (WkP w1 z gO n m g' w' ∧ w'.cell? ⟨gC, 0, none⟩ = some (.int .i64 c) ∧ gC < w'.heap.size) ∧ Edg l [(17, 11), (17, 15), (19, 17)] ∧ l.size = 20) ?_ ?_ _ _ _ _ (by decide) ?_
        · intro l a' W' i hi hI
          obtain ⟨V, rfl, hv, hZ, hM0, hM1, hE, hz⟩ := hI
          obtain ⟨hlt, hoff, hpre⟩ := ready_pre hi
          have hc : i ∈ [0, 1, 2, 3, 4, 5, 6, 7, 8, 9, 10, 11, 12, 13, 14, 15, 16, 17, 18, 19] := (by decide : ∀ i, i < 20 → i ∈ [0, 1, 2, 3, 4, 5, 6, 7, 8, 9, 10, 11, 12, 13, 14, 15, 16, 17, 18, 19]) i hlt
          simp only [List.mem_cons, List.not_mem_nil, or_false] at hc
          clear hi hlt
          rcases hc with rfl | rfl | rfl | rfl | rfl | rfl | rfl | rfl | rfl | rfl | rfl | rfl | rfl | rfl | rfl | rfl | rfl | rfl | rfl | rfl <;> (have hp := hpre _ rfl; simp [Region.binds] at hp; clear hpre)
          · skip
            have HV := Lib.hid hv
            clear hv
            refine wpOp_go rfl rfl (fun K hK => ?_)
            go_simp
            refine hK _ _ ?_
            exact ⟨_, rfl, HV.out.new (x := .slice (some ⟨gO, 0, none⟩) n n) rfl, hZ.keep, (hM0.keep (by decide)).map Off.keep, hM1.keep (by decide), hE.mono (by decide), by simp [hz]⟩
          · skip
            have HV := Lib.hid hv
            clear hv
            refine wpOp_go rfl rfl (fun K hK => ?_)
            go_simp
            refine hK _ _ ?_
            exact ⟨_, rfl, HV.out.new (x := .int .i64 r) rfl, hZ.keep, (hM0.keep (by decide)).map Off.keep, hM1.keep (by decide), hE.mono (by decide), by simp [hz]⟩
          · skip
            have HV := Lib.hid hv
            clear hv
            refine wpOp_go rfl rfl (fun K hK => ?_)
            go_simp
            refine hK _ _ ?_
            exact ⟨_, rfl, HV.out.new (x := .slice (some ⟨gO, 0, none⟩) n n) rfl, hZ.keep, (hM0.keep (by decide)).map Off.keep, hM1.keep (by decide), hE.mono (by decide), by simp [hz]⟩
          · skip
            have HV := Lib.hid hv
            clear hv
            refine wpOp_go rfl rfl (fun K hK => ?_)
            go_simp
            refine hK _ _ ?_
            exact ⟨_, rfl, HV.out.new (x := .int .i64 r) rfl, hZ.keep, (hM0.keep (by decide)).map Off.keep, hM1.keep (by decide), hE.mono (by decide), by simp [hz]⟩
          · skip
            have HV := Lib.hid hv
            clear hv
            refine wpOp_go rfl rfl (fun K hK => ?_)
            go_simp
            refine hK _ _ ?_
            exact ⟨_, rfl, HV.out.new (x := .int .i64 p) rfl, hZ.keep, (hM0.keep (by decide)).map Off.keep, hM1.keep (by decide), hE.mono (by decide), by simp [hz]⟩
          · skip
            have e3 : V 3 = .int .i64 r := hv.get 3 (by decide) (by simp [hp])
            have e4 : V 4 = .int .i64 p := hv.get 4 (by decide) (by simp [hp])
            have HV := Lib.hid ((hv.fixE e3 rfl).fixE e4 rfl)
            clear hv
            simp only [e3, e4]
            refine wpOp_go rfl rfl (fun K hK => ?_)
            go_simp
            refine hK _ _ ?_
            exact ⟨_, rfl, HV.out.new (x := .int .i64 rp) rfl, hZ.keep, (hM0.keep (by decide)).map Off.keep, hM1.keep (by decide), hE.mono (by decide), by simp [hz]⟩
          · skip
            have HV := Lib.hid hv
            clear hv
            refine wpOp_go rfl rfl (fun K hK => ?_)
            go_simp
            refine hK _ _ ?_
            exact ⟨_, rfl, HV.out.new (x := .slice (some ⟨gO, 0, none⟩) n n) rfl, hZ.keep, (hM0.keep (by decide)).map Off.keep, hM1.keep (by decide), hE.mono (by decide), by simp [hz]⟩
          · skip
            have HV := Lib.hid hv
            clear hv
            refine wpOp_go rfl rfl (fun K hK => ?_)
            go_simp
            refine hK _ _ ?_
            exact ⟨_, rfl, HV.out.new (x := .int .i64 r) rfl, hZ.keep, (hM0.keep (by decide)).map Off.keep, hM1.keep (by decide), hE.mono (by decide), by simp [hz]⟩
          · skip
            have HV := Lib.hid hv
            clear hv
            refine wpOp_go rfl rfl (fun K hK => ?_)
            go_simp
            refine hK _ _ ?_
            exact ⟨_, rfl, HV.out.new (x := .int .i64 p) rfl, hZ.keep, (hM0.keep (by decide)).map Off.keep, hM1.keep (by decide), hE.mono (by decide), by simp [hz]⟩
          · skip
            have e7 : V 7 = .int .i64 r := hv.get 7 (by decide) (by simp [hp])
            have e8 : V 8 = .int .i64 p := hv.get 8 (by decide) (by simp [hp])
            have HV := Lib.hid ((hv.fixE e7 rfl).fixE e8 rfl)
            clear hv
            simp only [e7, e8]
            refine wpOp_go rfl rfl (fun K hK => ?_)
            go_simp
            refine hK _ _ ?_
            exact ⟨_, rfl, HV.out.new (x := .int .i64 rp) rfl, hZ.keep, (hM0.keep (by decide)).map Off.keep, hM1.keep (by decide), hE.mono (by decide), by simp [hz]⟩
          · skip
            have e6 : V 6 = .slice (some ⟨gO, 0, none⟩) n n := hv.get 6 (by decide) (by simp [hp])
            have e9 : V 9 = .int .i64 rp := hv.get 9 (by decide) (by simp [hp])
            have HV := Lib.hid ((hv.fixE e6 rfl).fixE e9 rfl)
            clear hv
            simp only [e6, e9]
            refine wpOp_go rfl rfl (fun K hK => ?_)
            go_simp
            refine hK _ _ ?_
            exact ⟨_, rfl, HV.out.new (x := .pointer (some ⟨gO, rp, none⟩)) rfl, hZ.keep, (hM0.keep (by decide)).map Off.keep, hM1.keep (by decide), hE.mono (by decide), by simp [hz]⟩
          · skip
            have e10 : V 10 = .pointer (some ⟨gO, rp, none⟩) := hv.get 10 (by decide) (by simp [hp])
            have HV := Lib.hid (hv.fixE e10 rfl)
            clear hv
            simp only [e10]
            have hY := hZ.get (fun h => off hoff (hE.get 17 11 (by decide) h))
            have z := keepc hY hc1' hlO
            refine wpOp_go rfl rfl (fun K hK => ?_)
            go_simp
            refine hK _ _ ?_
            exact ⟨_, rfl, HV.out.new (x := .slice (some ⟨gc2, 0, none⟩) m kc2) rfl, hZ.keep, (hM0.keep (by decide)).map Off.keep, hM1.keep (by decide), hE.mono (by decide), by simp [hz]⟩
          · skip
            have HV := Lib.hid hv
            clear hv
            refine wpOp_go rfl rfl (fun K hK => ?_)
            go_simp
            refine hK _ _ ?_
            exact ⟨_, rfl, HV.out.new (x := .slice (some ⟨gO, 0, none⟩) n n) rfl, hZ.keep, (hM0.keep (by decide)).map Off.keep, hM1.keep (by decide), hE.mono (by decide), by simp [hz]⟩
          · skip
            have HV := Lib.hid hv
            clear hv
            refine wpOp_go rfl rfl (fun K hK => ?_)
            go_simp
            refine hK _ _ ?_
            exact ⟨_, rfl, HV.out.new (x := .int .i64 r) rfl, hZ.keep, (hM0.keep (by decide)).map Off.keep, hM1.keep (by decide), hE.mono (by decide), by simp [hz]⟩
          · skip
            have e12 : V 12 = .slice (some ⟨gO, 0, none⟩) n n := hv.get 12 (by decide) (by simp [hp])
            have e13 : V 13 = .int .i64 r := hv.get 13 (by decide) (by simp [hp])
            have HV := Lib.hid ((hv.fixE e12 rfl).fixE e13 rfl)
            clear hv
            simp only [e12, e13]
            refine wpOp_go rfl rfl (fun K hK => ?_)
            go_simp
            refine hK _ _ ?_
            exact ⟨_, rfl, HV.out.new (x := .pointer (some ⟨gO, r, none⟩)) rfl, hZ.keep, (hM0.keep (by decide)).map Off.keep, hM1.keep (by decide), hE.mono (by decide), by simp [hz]⟩
          · skip
            have e14 : V 14 = .pointer (some ⟨gO, r, none⟩) := hv.get 14 (by decide) (by simp [hp])
            have HV := Lib.hid (hv.fixE e14 rfl)
            clear hv
            simp only [e14]
            have hY := hZ.get (fun h => off hoff (hE.get 17 15 (by decide) h))
            have z := keepc hY hp1' hlO
            refine wpOp_go rfl rfl (fun K hK => ?_)
            go_simp
            refine hK _ _ ?_
            exact ⟨_, rfl, HV.out.new (x := .slice (some ⟨gp, 0, none⟩) m kp) rfl, hZ.keep, (hM0.keep (by decide)).map Off.keep, hM1.keep (by decide), hE.mono (by decide), by simp [hz]⟩
          · skip
            have e0 : V 0 = .slice (some ⟨gO, 0, none⟩) n n := hv.get 0 (by decide) (by simp [hp])
            have e1 : V 1 = .int .i64 r := hv.get 1 (by decide) (by simp [hp])
            have HV := Lib.hid ((hv.fixE e0 rfl).fixE e1 rfl)
            clear hv
            simp only [e0, e1]
            refine wpOp_go rfl rfl (fun K hK => ?_)
            go_simp
            refine hK _ _ ?_
            exact ⟨_, rfl, HV.out.new (x := .pointer (some ⟨gO, r, none⟩)) rfl, hZ.keep, (hM0.keep (by decide)).map Off.keep, hM1.keep (by decide), hE.mono (by decide), by simp [hz]⟩
          · skip
            have e16 : V 16 = .pointer (some ⟨gO, r, none⟩) := hv.get 16 (by decide) (by simp [hp])
            have e11 : V 11 = .slice (some ⟨gc2, 0, none⟩) m kc2 := hv.get 11 (by decide) (by simp [hp])
            have e15 : V 15 = .slice (some ⟨gp, 0, none⟩) m kp := hv.get 15 (by decide) (by simp [hp])
            have HV := Lib.hid (((hv.fixE e16 rfl).fixE e11 rfl).fixE e15 rfl)
            clear hv
            simp only [e16, e11, e15]
            have hY := hZ.get (off hoff)
            obtain ⟨a1, a2, a3⟩ := hsw W' hY
            have b1 := keepc hY H6.out.1 H6.out.2
            refine wpOp_go rfl rfl (fun K hK => ?_)
            go_simp
            refine hK _ _ ?_
            exact ⟨_, rfl, HV.out.other (by decide), Off.done (by omega), On.new (Off.new (⟨a3, keepo b1 (.inl (by omega)), by simpa [World.setCell] using Nat.lt_of_lt_of_le H6.out.2 hY.size⟩)), fun h => absurd (hE.get 19 17 (by decide) (on_ne h (by decide))) (off hoff), hE.step (by simp [hp]), by simp [hz]⟩
          · skip
            have e2 : V 2 = .slice (some ⟨gO, 0, none⟩) n n := hv.get 2 (by decide) (by simp [hp])
            have e5 : V 5 = .int .i64 rp := hv.get 5 (by decide) (by simp [hp])
            have HV := Lib.hid ((hv.fixE e2 rfl).fixE e5 rfl)
            clear hv
            simp only [e2, e5]
            refine wpOp_go rfl rfl (fun K hK => ?_)
            go_simp
            refine hK _ _ ?_
            exact ⟨_, rfl, HV.out.new (x := .pointer (some ⟨gO, rp, none⟩)) rfl, hZ.keep, (hM0.keep (by decide)).map Off.keep, hM1.keep (by decide), hE.mono (by decide), by simp [hz]⟩
          · skip
            have e18 : V 18 = .pointer (some ⟨gO, rp, none⟩) := hv.get 18 (by decide) (by simp [hp])
            have e15 : V 15 = .slice (some ⟨gp, 0, none⟩) m kp := hv.get 15 (by decide) (by simp [hp])
            have HV := Lib.hid ((hv.fixE e18 rfl).fixE e15 rfl)
            clear hv
            simp only [e18, e15]
            have hY := (hM0.get (by simp [hp])).get (off hoff)
            obtain ⟨⟨⟨v0, a1⟩, a2, a3⟩, b1, b2⟩ := hY
            refine wpOp_go rfl rfl (fun K hK => ?_)
            go_simp
            refine hK _ _ ?_
            exact ⟨_, rfl, HV.out.other (by decide), fun h => absurd (on_mono (by simp [hp])) h, (hM0.keep (by decide)).map (fun _ => Off.done (by omega)), On.new (⟨a3, keepo b1 (.inl (by omega)), by simpa [World.setCell] using b2⟩), hE.step (by simp [hp]), by simp [hz]⟩
        · intro l a' W' hr hI
          obtain ⟨V, rfl, hv, hZ, hM0, hM1, hE, hz⟩ := hI
          have a0 := not_ready (i := 0) hr hz rfl (by simp [Region.binds])
          have a1 := not_ready (i := 1) hr hz rfl (by simp [Region.binds, a0])
          have a2 := not_ready (i := 2) hr hz rfl (by simp [Region.binds, a0, a1])
          have a3 := not_ready (i := 3) hr hz rfl (by simp [Region.binds, a0, a1, a2])
          have a4 := not_ready (i := 4) hr hz rfl (by simp [Region.binds, a0, a1, a2, a3])
          have a5 := not_ready (i := 5) hr hz rfl (by simp [Region.binds, a0, a1, a2, a3, a4])
          have a6 := not_ready (i := 6) hr hz rfl (by simp [Region.binds, a0, a1, a2, a3, a4, a5])
          have a7 := not_ready (i := 7) hr hz rfl (by simp [Region.binds, a0, a1, a2, a3, a4, a5, a6])
          have a8 := not_ready (i := 8) hr hz rfl (by simp [Region.binds, a0, a1, a2, a3, a4, a5, a6, a7])
          have a9 := not_ready (i := 9) hr hz rfl (by simp [Region.binds, a0, a1, a2, a3, a4, a5, a6, a7, a8])
          have a10 := not_ready (i := 10) hr hz rfl (by simp [Region.binds, a0, a1, a2, a3, a4, a5, a6, a7, a8, a9])
          have a11 := not_ready (i := 11) hr hz rfl (by simp [Region.binds, a0, a1, a2, a3, a4, a5, a6, a7, a8, a9, a10])
          have a12 := not_ready (i := 12) hr hz rfl (by simp [Region.binds, a0, a1, a2, a3, a4, a5, a6, a7, a8, a9, a10, a11])
          have a13 := not_ready (i := 13) hr hz rfl (by simp [Region.binds, a0, a1, a2, a3, a4, a5, a6, a7, a8, a9, a10, a11, a12])
          have a14 := not_ready (i := 14) hr hz rfl (by simp [Region.binds, a0, a1, a2, a3, a4, a5, a6, a7, a8, a9, a10, a11, a12, a13])
          have a15 := not_ready (i := 15) hr hz rfl (by simp [Region.binds, a0, a1, a2, a3, a4, a5, a6, a7, a8, a9, a10, a11, a12, a13, a14])
          have a16 := not_ready (i := 16) hr hz rfl (by simp [Region.binds, a0, a1, a2, a3, a4, a5, a6, a7, a8, a9, a10, a11, a12, a13, a14, a15])
          have a17 := not_ready (i := 17) hr hz rfl (by simp [Region.binds, a0, a1, a2, a3, a4, a5, a6, a7, a8, a9, a10, a11, a12, a13, a14, a15, a16])
          have a18 := not_ready (i := 18) hr hz rfl (by simp [Region.binds, a0, a1, a2, a3, a4, a5, a6, a7, a8, a9, a10, a11, a12, a13, a14, a15, a16, a17])
          have a19 := not_ready (i := 19) hr hz rfl (by simp [Region.binds, a0, a1, a2, a3, a4, a5, a6, a7, a8, a9, a10, a11, a12, a13, a14, a15, a16, a17, a18])
          have hY := hM1.get a19
          clear hr hz hv hZ a0 a1 a2 a3 a4 a5 a6 a7 a8 a9 a10 a11 a12 a13 a14 a15 a16 a17 a18 a19 hM0 hM1 hE
          obtain ⟨hW7, hc7, hl7⟩ := hY
          have HC7 := Lib.hid (And.intro hc7 hl7)
          have hs1 := Lib.hid (sz_lowR (HK1.out r) hr2 hcm HGZ.out HGS.out)
          by_cases hr1 : r + 1 = n
          · have HW7 := Lib.hid (hW7.cong (f' := lowR r c g') (fun a b ha _ => if_neg (by omega)))
            have j1 : (0 : Int) ≤ (r : Int) + 1 := by omega
            subst hr1
            clear hW7 hc7 hl7 hsw hp1' hc1' hlO H6 q1 q2 i3 i4 i2
            go_upto_region 13 with fail
            go_loopw [57] (fun q (wr : World) => q = .int .i64 0 ∧ WkP w1 z gO (r + 1) m (lowR r c g') wr) (fun q _ => 0)
            case atStart => exact ⟨rfl, HW7.out⟩
            case round =>
              obtain ⟨rfl, hW⟩ := hrel
              have HWE := Lib.hid hW
              clear HW7 hW
              go_wp2_with fail
              go_roundw
              case rel => exact ⟨c + 1, r + 1, lowR r c g', by omega, Nat.le_refl _, by go_num, by go_num, HRR, hs1, HWE.out⟩
              case measure => simp [intOf]; omega
          have hr3 : r + 1 < n := by omega
          have HWC := Lib.hid (hW7.cong (lrTo_start (r := r) (c := c)))
          have j1 : (0 : Int) ≤ (r : Int) + 1 := by omega
          have j2 : (r : Int) + 1 ≤ (n : Int) := by omega
          have j3 : (r : Int) + 1 < (n : Int) := by omega
          clear hW7 hc7 hl7 hsw hp1' hc1' hlO H6 q1 q2 i3 i4 hr1
          go_upto_region 13 with fail
          go_loopw [57] (fun q (wr : World) => ∃ i0 : Nat, i0 + (r + 1) ≤ n ∧ q = .int .i64 i0 ∧ WkP w1 z gO n m (lrTo r c g' (r + 1 + i0)) wr ∧ wr.cell? ⟨gC, 0, none⟩ = some (.int .i64 c) ∧ gC < wr.heap.size) (fun q _ => n - (intOf q).toNat)
          case atStart => exact ⟨0, by omega, rfl, HWC.out, HC7.out.1, HC7.out.2⟩
          case round =>
            obtain ⟨i0, hi0, rfl, hW, hcC, hlC⟩ := hrel
            clear HWC HC7
            by_cases hin0 : i0 < n - (r + 1)
            · obtain ⟨i, hi⟩ : ∃ i, i = r + 1 + i0 := ⟨_, rfl⟩
              have hin : i < n := by omega
              have hri : r < i := by omega
              rw [← hi] at hW
              obtain ⟨gi, ki, r1, r2, _, r4⟩ := hW.row hin
              obtain ⟨gr, kr, p1, p2, _, p4⟩ := hW.row hr2
              obtain ⟨A1, A2, A3, hcs, hN⟩ := r4 c hcm
              obtain ⟨B1, B2, B3, hds, hM⟩ := p4 c hcm
              rw [lrTo_i] at hcs hN
              rw [lrTo_r hri] at hds hM
              obtain ⟨x, hx⟩ : ∃ x, x = g' i c := ⟨_, rfl⟩
              obtain ⟨y, hy⟩ : ∃ y, y = g' r c := ⟨_, rfl⟩
              rw [← hx] at hcs hN
              rw [← hy] at hds hM
              have hBC := HBD.out r hr2
              have zx : sz (bd K0 r) x := by rw [hx]; exact HGS.out i c hin hcm
              have zy : sz (bd K0 r) y := by rw [hy]; exact HGS.out r c hr2 hcm
              have hy0 : y ≠ Cx.zero := by rw [hy]; exact HGZ.out
              have zF := sz_div2 (HK1.out r) zx zy hy0
              have hlO := hW.lt
              have hnz := hW.ne hin r1
              have hzw := hW.2.1.2
              have HBB := Lib.hid hW
              have ZZ := Lib.hid (And.intro (zx.mono (show bd K0 r ≤ 137438953472 by omega)) (And.intro (zy.mono (show bd K0 r ≤ 137438953472 by omega)) hy0))
              have ZF := Lib.hid zF
              have HXY := Lib.hid (And.intro hx hy)
              have HI := Lib.hid hi
              have R1 := Lib.hid r1
              rw [hi] at r1
              have k1 : (0 : Int) ≤ (i0 : Int) := by omega
              have k2 : (i0 : Int) < ((n - (r + 1) : Nat) : Int) := by omega
              have k3 : (0 : Int) ≤ (c : Int) := by omega
              have k4 : (c : Int) < (m : Int) := by omega
              clear hW r4 p4 hx hy zx zy hy0 zF hBC hi
              go_upto_region 15 with fail
              refine wp_region_any (by kernel_rfl) ?_
              refine wpAny_inv (fun l a' w' => ∃ V2 : Nat → Value, ∃ xa11 xa12 xa13 xa14 xa15 xa17 : Value, a' = ⟨List.toArray (.slice (some ⟨gO, 0, none⟩) n n :: undef :: .int .i64 0 :: .int .i64 0 :: .int .i64 ↑m :: .bool true :: .int .i64 ↑r :: .pointer (some ⟨gC, 0, none⟩) :: .int .i64 ↑p :: undef :: .slice (some ⟨gi, 0, none⟩) m ki :: xa15 :: xa17 :: u13 :: .tuple #[.int .i64 ↑m, .bool true] :: .slice A n cA :: .tuple #[.int .i64 ↑m, .bool true] :: .int .i64 ↑m :: .bool true :: .bool true :: .bool false :: .slice A n cA :: .slice (some ⟨gO, 0, none⟩) n n :: .int .i64 ↑m :: .int .i64 ↑c :: .bool true :: .int .i64 ↑c :: .slice (some ⟨gO, 0, none⟩) n n :: .int .i64 ↑r :: .slice (some ⟨gO, r, none⟩) (n - r) (n - r) :: .func (Fn.func 46) #[] #[.pointer (some ⟨gC, 0, none⟩)] :: .int .i64 ↑p :: .int .i64 ↑p :: .bool (decide (p < 0)) :: V 0 :: V 1 :: V 2 :: V 3 :: V 4 :: V 5 :: V 6 :: V 7 :: V 8 :: V 9 :: V 10 :: V 11 :: V 12 :: V 13 :: V 14 :: V 15 :: V 16 :: V 18 :: .slice (some ⟨gO, 0, none⟩) n n :: .int .i64 ↑r :: .int .i64 (↑r + 1) :: .slice (some { block := gO, off := r + 1 }) (n - (r + 1)) (n - (r + 1)) :: .int .i64 ↑(n - (r + 1)) :: .int .i64 ↑i0 :: .bool true :: .pointer (some { block := gO, off := r + 1 + i0 }) :: .slice (some ⟨gi, 0, none⟩) m ki :: xa12 :: V2 0 :: V2 1 :: V2 2 :: V2 3 :: V2 4 :: V2 5 :: V2 6 :: V2 7 :: V2 8 :: V2 9 :: V2 10 :: xa11 :: xa13 :: xa14 :: u76 :: u77 :: u78 :: u79 :: u80 :: u81 :: u82 :: u83 :: u84 :: u85 :: u86 :: u87 :: u88 :: u89 :: u90 :: u91 :: u92 :: u93 :: u94 :: u95 :: u96 :: u97 :: u98 :: u99 :: u100 :: u101 :: u102 :: undef :: []), []⟩ ∧ OnFix l V2 (fun zz => List.getD [.slice (some ⟨gi, 0, none⟩) m ki, .int .i64 c, .pointer (some ⟨gi, c * 5, none⟩), .agg #[.bool (sn (na x)), .slice A1 (ln (ab (na x))) (ln (ab (na x))), .bool (sn (nb x)), .slice A2 (ln (ab (nb x))) (ln (ab (nb x))), .slice A3 (ln (un x)) (ln (un x))], .slice (some ⟨gO, 0, none⟩) n n, .int .i64 r, .pointer (some ⟨gO, r, none⟩), .slice (some ⟨gr, 0, none⟩) m kr, .int .i64 c, .pointer (some ⟨gr, c * 5, none⟩), .agg #[.bool (sn (na y)), .slice B1 (ln (ab (na y))) (ln (ab (na y))), .bool (sn (nb y)), .slice B2 (ln (ab (nb y))) (ln (ab (nb y))), .slice B3 (ln (un y)) (ln (un y))], undef, undef, undef, undef, undef, undef, undef] zz undef) [0, 1, 2, 3, 4, 5, 6, 7, 8, 9, 10] ∧ Off l 16 (Below wr.heap.size wr w' ∧ On l 11 (SlotNumE w' xa11 (x.div y)) ∧ On l 12 (SlotNumE w' xa12 (x.div y)) ∧ On l 13 (SlotNum w' xa13 (x.div y)) ∧ On l 15 (AtV wr.heap.size w' xa15)) ∧ On l 16 (∃ gs, xa15 = .pointer (some ⟨gs, 0, none⟩) ∧ wr.heap.size ≤ gs ∧ HasP w' gs (x.div y) ∧ Below wr.heap.size wr w') ∧ On l 12 (∃ A, xa12 = .tuple #[A, .int .i64 0]) ∧ Edg l [(16, 13), (13, 12), (12, 11), (11, 3), (3, 2), (2, 1), (11, 10), (10, 9), (9, 7), (9, 8), (16, 15)] ∧ l.size = 18) ?_ ?_ _ _ _ _ (by decide) ?_
              · intro l a' W' i hi hI
                obtain ⟨V2, xa11, xa12, xa13, xa14, xa15, xa17, rfl, hv, hZ, hM0, hP12, hE, hz⟩ := hI
                obtain ⟨hlt, hoff, hpre⟩ := ready_pre hi
                have hc : i ∈ [0, 1, 2, 3, 4, 5, 6, 7, 8, 9, 10, 11, 12, 13, 14, 15, 16, 17] := (by decide : ∀ i, i < 18 → i ∈ [0, 1, 2, 3, 4, 5, 6, 7, 8, 9, 10, 11, 12, 13, 14, 15, 16, 17]) i hlt
                simp only [List.mem_cons, List.not_mem_nil, or_false] at hc
                clear hi hlt
                rcases hc with rfl | rfl | rfl | rfl | rfl | rfl | rfl | rfl | rfl | rfl | rfl | rfl | rfl | rfl | rfl | rfl | rfl | rfl <;> (have hp := hpre _ rfl; simp [Region.binds] at hp; clear hpre)
                · skip
                  have HV := Lib.hid hv
                  clear hv
                  refine wpOp_go rfl rfl (fun K hK => ?_)
                  go_simp
                  refine hK _ _ ?_
                  exact ⟨_, _, _, _, _, _, _, rfl, HV.out.new (x := .slice (some ⟨gi, 0, none⟩) m ki) rfl, hZ.keep.map (fun ⟨hb0, y11, y12, y13, y15⟩ => ⟨hb0, y11.keep (by decide), y12.keep (by decide), y13.keep (by decide), y15.keep (by decide)⟩), hM0.keep (by decide), hP12.keep (j := 0) (by decide), hE.mono (by decide), by simp [hz]⟩
                · skip
                  have HV := Lib.hid hv
                  clear hv
                  have hY := hZ.get (fun h => off hoff (hE.get 2 1 (by decide) (hE.get 3 2 (by decide) (hE.get 11 3 (by decide) (hE.get 12 11 (by decide) (hE.get 13 12 (by decide) (hE.get 16 13 (by decide) h)))))))
                  have z := keepc hY.1 hcC hlC
                  refine wpOp_go rfl rfl (fun K hK => ?_)
                  go_simp
                  refine hK _ _ ?_
                  exact ⟨_, _, _, _, _, _, _, rfl, HV.out.new (x := .int .i64 c) rfl, hZ.keep.map (fun ⟨hb0, y11, y12, y13, y15⟩ => ⟨hb0, y11.keep (by decide), y12.keep (by decide), y13.keep (by decide), y15.keep (by decide)⟩), hM0.keep (by decide), hP12.keep (j := 1) (by decide), hE.mono (by decide), by simp [hz]⟩
                · skip
                  have e0 : V2 0 = .slice (some ⟨gi, 0, none⟩) m ki := hv.get 0 (by decide) (by simp [hp])
                  have e1 : V2 1 = .int .i64 c := hv.get 1 (by decide) (by simp [hp])
                  have HV := Lib.hid ((hv.fixE e0 rfl).fixE e1 rfl)
                  clear hv
                  simp only [e0, e1]
                  refine wpOp_go rfl rfl (fun K hK => ?_)
                  go_simp
                  refine hK _ _ ?_
                  exact ⟨_, _, _, _, _, _, _, rfl, HV.out.new (x := .pointer (some ⟨gi, c * 5, none⟩)) rfl, hZ.keep.map (fun ⟨hb0, y11, y12, y13, y15⟩ => ⟨hb0, y11.keep (by decide), y12.keep (by decide), y13.keep (by decide), y15.keep (by decide)⟩), hM0.keep (by decide), hP12.keep (j := 2) (by decide), hE.step (by simp [hp]), by simp [hz]⟩
                · skip
                  have e2 : V2 2 = .pointer (some ⟨gi, c * 5, none⟩) := hv.get 2 (by decide) (by simp [hp])
                  have HV := Lib.hid (hv.fixE e2 rfl)
                  clear hv
                  simp only [e2]
                  have hY := hZ.get (fun h => off hoff (hE.get 11 3 (by decide) (hE.get 12 11 (by decide) (hE.get 13 12 (by decide) (hE.get 16 13 (by decide) h)))))
                  obtain ⟨z0, z1, z2, z3, z4⟩ := hcs
                  have y0 := keepc hY.1 z0 r2; have y1 := keepc hY.1 z1 r2; have y2 := keepc hY.1 z2 r2; have y3 := keepc hY.1 z3 r2; have y4 := keepc hY.1 z4 r2
                  refine wpOp_go rfl rfl (fun K hK => ?_)
                  go_simp
                  refine hK _ _ ?_
                  exact ⟨_, _, _, _, _, _, _, rfl, HV.out.new (x := .agg #[.bool (sn (na x)), .slice A1 (ln (ab (na x))) (ln (ab (na x))), .bool (sn (nb x)), .slice A2 (ln (ab (nb x))) (ln (ab (nb x))), .slice A3 (ln (un x)) (ln (un x))]) rfl, hZ.keep.map (fun ⟨hb0, y11, y12, y13, y15⟩ => ⟨hb0, y11.keep (by decide), y12.keep (by decide), y13.keep (by decide), y15.keep (by decide)⟩), hM0.keep (by decide), hP12.keep (j := 3) (by decide), hE.step (by simp [hp]), by simp [hz]⟩
                · skip
                  have HV := Lib.hid hv
                  clear hv
                  refine wpOp_go rfl rfl (fun K hK => ?_)
                  go_simp
                  refine hK _ _ ?_
                  exact ⟨_, _, _, _, _, _, _, rfl, HV.out.new (x := .slice (some ⟨gO, 0, none⟩) n n) rfl, hZ.keep.map (fun ⟨hb0, y11, y12, y13, y15⟩ => ⟨hb0, y11.keep (by decide), y12.keep (by decide), y13.keep (by decide), y15.keep (by decide)⟩), hM0.keep (by decide), hP12.keep (j := 4) (by decide), hE.mono (by decide), by simp [hz]⟩
                · skip
                  have HV := Lib.hid hv
                  clear hv
                  refine wpOp_go rfl rfl (fun K hK => ?_)
                  go_simp
                  refine hK _ _ ?_
                  exact ⟨_, _, _, _, _, _, _, rfl, HV.out.new (x := .int .i64 r) rfl, hZ.keep.map (fun ⟨hb0, y11, y12, y13, y15⟩ => ⟨hb0, y11.keep (by decide), y12.keep (by decide), y13.keep (by decide), y15.keep (by decide)⟩), hM0.keep (by decide), hP12.keep (j := 5) (by decide), hE.mono (by decide), by simp [hz]⟩
                · skip
                  have e4 : V2 4 = .slice (some ⟨gO, 0, none⟩) n n := hv.get 4 (by decide) (by simp [hp])
                  have e5 : V2 5 = .int .i64 r := hv.get 5 (by decide) (by simp [hp])
                  have HV := Lib.hid ((hv.fixE e4 rfl).fixE e5 rfl)
                  clear hv
                  simp only [e4, e5]
                  refine wpOp_go rfl rfl (fun K hK => ?_)
                  go_simp
                  refine hK _ _ ?_
                  exact ⟨_, _, _, _, _, _, _, rfl, HV.out.new (x := .pointer (some ⟨gO, r, none⟩)) rfl, hZ.keep.map (fun ⟨hb0, y11, y12, y13, y15⟩ => ⟨hb0, y11.keep (by decide), y12.keep (by decide), y13.keep (by decide), y15.keep (by decide)⟩), hM0.keep (by decide), hP12.keep (j := 6) (by decide), hE.mono (by decide), by simp [hz]⟩
                · skip
                  have e6 : V2 6 = .pointer (some ⟨gO, r, none⟩) := hv.get 6 (by decide) (by simp [hp])
                  have HV := Lib.hid (hv.fixE e6 rfl)
                  clear hv
                  simp only [e6]
                  have hY := hZ.get (fun h => off hoff (hE.get 9 7 (by decide) (hE.get 10 9 (by decide) (hE.get 11 10 (by decide) (hE.get 12 11 (by decide) (hE.get 13 12 (by decide) (hE.get 16 13 (by decide) h)))))))
                  have z := keepc hY.1 p1 hlO
                  refine wpOp_go rfl rfl (fun K hK => ?_)
                  go_simp
                  refine hK _ _ ?_
                  exact ⟨_, _, _, _, _, _, _, rfl, HV.out.new (x := .slice (some ⟨gr, 0, none⟩) m kr) rfl, hZ.keep.map (fun ⟨hb0, y11, y12, y13, y15⟩ => ⟨hb0, y11.keep (by decide), y12.keep (by decide), y13.keep (by decide), y15.keep (by decide)⟩), hM0.keep (by decide), hP12.keep (j := 7) (by decide), hE.mono (by decide), by simp [hz]⟩
                · skip
                  have HV := Lib.hid hv
                  clear hv
                  have hY := hZ.get (fun h => off hoff (hE.get 9 8 (by decide) (hE.get 10 9 (by decide) (hE.get 11 10 (by decide) (hE.get 12 11 (by decide) (hE.get 13 12 (by decide) (hE.get 16 13 (by decide) h)))))))
                  have z := keepc hY.1 hcC hlC
                  refine wpOp_go rfl rfl (fun K hK => ?_)
                  go_simp
                  refine hK _ _ ?_
                  exact ⟨_, _, _, _, _, _, _, rfl, HV.out.new (x := .int .i64 c) rfl, hZ.keep.map (fun ⟨hb0, y11, y12, y13, y15⟩ => ⟨hb0, y11.keep (by decide), y12.keep (by decide), y13.keep (by decide), y15.keep (by decide)⟩), hM0.keep (by decide), hP12.keep (j := 8) (by decide), hE.mono (by decide), by simp [hz]⟩
                · skip
                  have e7 : V2 7 = .slice (some ⟨gr, 0, none⟩) m kr := hv.get 7 (by decide) (by simp [hp])
                  have e8 : V2 8 = .int .i64 c := hv.get 8 (by decide) (by simp [hp])
                  have HV := Lib.hid ((hv.fixE e7 rfl).fixE e8 rfl)
                  clear hv
                  simp only [e7, e8]
                  refine wpOp_go rfl rfl (fun K hK => ?_)
                  go_simp
                  refine hK _ _ ?_
                  exact ⟨_, _, _, _, _, _, _, rfl, HV.out.new (x := .pointer (some ⟨gr, c * 5, none⟩)) rfl, hZ.keep.map (fun ⟨hb0, y11, y12, y13, y15⟩ => ⟨hb0, y11.keep (by decide), y12.keep (by decide), y13.keep (by decide), y15.keep (by decide)⟩), hM0.keep (by decide), hP12.keep (j := 9) (by decide), hE.step (by simp [hp]), by simp [hz]⟩
                · skip
                  have e9 : V2 9 = .pointer (some ⟨gr, c * 5, none⟩) := hv.get 9 (by decide) (by simp [hp])
                  have HV := Lib.hid (hv.fixE e9 rfl)
                  clear hv
                  simp only [e9]
                  have hY := hZ.get (fun h => off hoff (hE.get 11 10 (by decide) (hE.get 12 11 (by decide) (hE.get 13 12 (by decide) (hE.get 16 13 (by decide) h)))))
                  obtain ⟨z0, z1, z2, z3, z4⟩ := hds
                  have y0 := keepc hY.1 z0 p2; have y1 := keepc hY.1 z1 p2; have y2 := keepc hY.1 z2 p2; have y3 := keepc hY.1 z3 p2; have y4 := keepc hY.1 z4 p2
                  refine wpOp_go rfl rfl (fun K hK => ?_)
                  go_simp
                  refine hK _ _ ?_
                  exact ⟨_, _, _, _, _, _, _, rfl, HV.out.new (x := .agg #[.bool (sn (na y)), .slice B1 (ln (ab (na y))) (ln (ab (na y))), .bool (sn (nb y)), .slice B2 (ln (ab (nb y))) (ln (ab (nb y))), .slice B3 (ln (un y)) (ln (un y))]) rfl, hZ.keep.map (fun ⟨hb0, y11, y12, y13, y15⟩ => ⟨hb0, y11.keep (by decide), y12.keep (by decide), y13.keep (by decide), y15.keep (by decide)⟩), hM0.keep (by decide), hP12.keep (j := 10) (by decide), hE.step (by simp [hp]), by simp [hz]⟩
                · skip
                  have e3 : V2 3 = .agg #[.bool (sn (na x)), .slice A1 (ln (ab (na x))) (ln (ab (na x))), .bool (sn (nb x)), .slice A2 (ln (ab (nb x))) (ln (ab (nb x))), .slice A3 (ln (un x)) (ln (un x))] := hv.get 3 (by decide) (by simp [hp])
                  have e10 : V2 10 = .agg #[.bool (sn (na y)), .slice B1 (ln (ab (na y))) (ln (ab (na y))), .bool (sn (nb y)), .slice B2 (ln (ab (nb y))) (ln (ab (nb y))), .slice B3 (ln (un y)) (ln (un y))] := hv.get 10 (by decide) (by simp [hp])
                  have HV := Lib.hid ((hv.fixE e3 rfl).fixE e10 rfl)
                  clear hv
                  simp only [e3, e10]
                  have hY := hZ.get (fun h => off hoff (hE.get 12 11 (by decide) (hE.get 13 12 (by decide) (hE.get 16 13 (by decide) h))))
                  refine wpOp_go rfl rfl (fun K hK => ?_)
                  go_wp2_with (first | (go_at_call 40; refine (div_num0 x y A1 A2 A3 B1 B2 B3 _ (hN.to hY.1) (hM.to hY.1) ZZ.out.1 ZZ.out.2.1 ZZ.out.2.2).mono ?_; rintro e wf ⟨E1, E2, E3, rfl, hNN, hb⟩))
                  try refine hK _ _ ?_
                  exact ⟨_, _, _, _, _, _, _, rfl, HV.out.other (by decide), Off.new ⟨hY.1.trans (hb.mono hY.1.size), On.new (⟨E1, E2, E3, rfl, hNN⟩), ((hY.2.2.1).keep (by decide)).map (fun h => h.to hb), ((hY.2.2.2.1).keep (by decide)).map (fun h => h.to hb), ((hY.2.2.2.2).keep (by decide)).map (fun h => h.to hb)⟩, fun h => absurd (hE.get 12 11 (by decide) (hE.get 13 12 (by decide) (hE.get 16 13 (by decide) (on_ne h (by decide))))) (off hoff), hP12.keep (j := 11) (by decide), hE.step (by simp [hp]), by simp [hz]⟩
                · skip
                  have HV := Lib.hid hv
                  clear hv
                  have hY := hZ.get (fun h => off hoff (hE.get 13 12 (by decide) (hE.get 16 13 (by decide) h)))
                  obtain ⟨E1, E2, E3, e0, hNN⟩ := hY.2.1.get (by simp [hp])
                  subst e0
                  refine wpOp_go rfl rfl (fun K hK => ?_)
                  go_simp
                  refine hK _ _ ?_
                  exact ⟨_, _, _, _, _, _, _, rfl, HV.out.other (by decide), Off.new ⟨hY.1, ((hY.2.1).keep (by decide)).map (fun h => h), On.new (⟨E1, E2, E3, rfl, hNN⟩), ((hY.2.2.2.1).keep (by decide)).map (fun h => h), ((hY.2.2.2.2).keep (by decide)).map (fun h => h)⟩, fun h => absurd (hE.get 13 12 (by decide) (hE.get 16 13 (by decide) (on_ne h (by decide)))) (off hoff), On.new (⟨_, rfl⟩), hE.step (by simp [hp]), by simp [hz]⟩
                · skip
                  have HV := Lib.hid hv
                  clear hv
                  have hY := hZ.get (fun h => off hoff (hE.get 16 13 (by decide) h))
                  obtain ⟨E1, E2, E3, e0, hNN⟩ := hY.2.2.1.get (by simp [hp])
                  subst e0
                  refine wpOp_go rfl rfl (fun K hK => ?_)
                  go_simp
                  refine hK _ _ ?_
                  exact ⟨_, _, _, _, _, _, _, rfl, HV.out.other (by decide), Off.new ⟨hY.1, ((hY.2.1).keep (by decide)).map (fun h => h), ((hY.2.2.1).keep (by decide)).map (fun h => h), On.new (⟨E1, E2, E3, rfl, hNN⟩), ((hY.2.2.2.2).keep (by decide)).map (fun h => h)⟩, fun h => absurd (hE.get 16 13 (by decide) (on_ne h (by decide))) (off hoff), hP12.keep (j := 13) (by decide), hE.step (by simp [hp]), by simp [hz]⟩
                · skip
                  have HV := Lib.hid hv
                  clear hv
                  obtain ⟨E0, e0⟩ := hP12.get (by simp [hp])
                  subst e0
                  refine wpOp_go rfl rfl (fun K hK => ?_)
                  go_simp
                  refine hK _ _ ?_
                  exact ⟨_, _, _, _, _, _, _, rfl, HV.out.other (by decide), hZ.keep.map (fun ⟨hb0, y11, y12, y13, y15⟩ => ⟨hb0, y11.keep (by decide), y12.keep (by decide), y13.keep (by decide), y15.keep (by decide)⟩), hM0.keep (by decide), hP12.keep (j := 14) (by decide), hE.mono (by decide), by simp [hz]⟩
                · skip
                  have HV := Lib.hid hv
                  clear hv
                  have hY := hZ.get (fun h => off hoff (hE.get 16 15 (by decide) h))
                  refine wpOp_go rfl rfl (fun K hK => ?_)
                  go_simp
                  refine hK _ _ ?_
                  exact ⟨_, _, _, _, _, _, _, rfl, HV.out.other (by decide), Off.new ⟨hY.1.trans (((Below.refl _ _).alloc (Nat.le_refl _) _).mono hY.1.size), ((hY.2.1).keep (by decide)).map (fun h => h.to ((Below.refl _ _).alloc (Nat.le_refl _) _)), ((hY.2.2.1).keep (by decide)).map (fun h => h.to ((Below.refl _ _).alloc (Nat.le_refl _) _)), ((hY.2.2.2.1).keep (by decide)).map (fun h => h.to ((Below.refl _ _).alloc (Nat.le_refl _) _)), On.new (AtV.new hY.1.size)⟩, fun h => absurd (hE.get 16 15 (by decide) (on_ne h (by decide))) (off hoff), hP12.keep (j := 15) (by decide), hE.mono (by decide), by simp [hz]⟩
                · skip
                  have HV := Lib.hid hv
                  clear hv
                  have hY := hZ.get (off hoff)
                  obtain ⟨E1, E2, E3, e1, hNN⟩ := hY.2.2.2.1.get (by simp [hp])
                  subst e1
                  obtain ⟨gs, e2, hgs, hv5⟩ := hY.2.2.2.2.get (by simp [hp])
                  subst e2
                  have hv6 := hv5
                  obtain ⟨_, ⟨cc, u1, u2, u3, u4, d0, d1, d2, d3, d4⟩, ⟨f0, f1, f2, f3, f4⟩⟩ := hv5
                  refine wpOp_go rfl rfl (fun K hK => ?_)
                  go_simp
                  refine hK _ _ ?_
                  obtain ⟨XX, hX⟩ : ∃ XX : World, XX = set5 W' gs (x.div y) E1 E2 E3 := ⟨_, rfl⟩
                  have hw : set5 W' gs (x.div y) E1 E2 E3 = XX := hX.symm
                  unfold set5 at hw
                  rw [hw]
                  subst hX
                  exact ⟨_, _, _, _, _, _, _, rfl, HV.out.other (by decide), Off.done (by omega), On.new (⟨gs, rfl, hgs, hv6.putP hNN, set5_below hY.1 hgs⟩), hP12.keep (j := 16) (by decide), hE.step (by simp [hp]), by simp [hz]⟩
                · skip
                  have HV := Lib.hid hv
                  clear hv
                  refine wpOp_go rfl rfl (fun K hK => ?_)
                  go_simp
                  refine hK _ _ ?_
                  exact ⟨_, _, _, _, _, _, _, rfl, HV.out.other (by decide), hZ.keep.map (fun ⟨hb0, y11, y12, y13, y15⟩ => ⟨hb0, y11.keep (by decide), y12.keep (by decide), y13.keep (by decide), y15.keep (by decide)⟩), hM0.keep (by decide), hP12.keep (j := 17) (by decide), hE.mono (by decide), by simp [hz]⟩
              · intro l a' W' hr hI
                obtain ⟨V2, xa11, xa12, xa13, xa14, xa15, xa17, rfl, hv, hZ, hM0, hP12, hE, hz⟩ := hI
                have a0 := not_ready (i := 0) hr hz rfl (by simp [Region.binds])
                have a1 := not_ready (i := 1) hr hz rfl (by simp [Region.binds, a0])
                have a2 := not_ready (i := 2) hr hz rfl (by simp [Region.binds, a0, a1])
                have a3 := not_ready (i := 3) hr hz rfl (by simp [Region.binds, a0, a1, a2])
                have a4 := not_ready (i := 4) hr hz rfl (by simp [Region.binds, a0, a1, a2, a3])
                have a5 := not_ready (i := 5) hr hz rfl (by simp [Region.binds, a0, a1, a2, a3, a4])
                have a6 := not_ready (i := 6) hr hz rfl (by simp [Region.binds, a0, a1, a2, a3, a4, a5])
                have a7 := not_ready (i := 7) hr hz rfl (by simp [Region.binds, a0, a1, a2, a3, a4, a5, a6])
                have a8 := not_ready (i := 8) hr hz rfl (by simp [Region.binds, a0, a1, a2, a3, a4, a5, a6, a7])
                have a9 := not_ready (i := 9) hr hz rfl (by simp [Region.binds, a0, a1, a2, a3, a4, a5, a6, a7, a8])
                have a10 := not_ready (i := 10) hr hz rfl (by simp [Region.binds, a0, a1, a2, a3, a4, a5, a6, a7, a8, a9])
                have a11 := not_ready (i := 11) hr hz rfl (by simp [Region.binds, a0, a1, a2, a3, a4, a5, a6, a7, a8, a9, a10])
                have a12 := not_ready (i := 12) hr hz rfl (by simp [Region.binds, a0, a1, a2, a3, a4, a5, a6, a7, a8, a9, a10, a11])
                have a13 := not_ready (i := 13) hr hz rfl (by simp [Region.binds, a0, a1, a2, a3, a4, a5, a6, a7, a8, a9, a10, a11, a12])
                have a14 := not_ready (i := 14) hr hz rfl (by simp [Region.binds, a0, a1, a2, a3, a4, a5, a6, a7, a8, a9, a10, a11, a12, a13])
                have a15 := not_ready (i := 15) hr hz rfl (by simp [Region.binds, a0, a1, a2, a3, a4, a5, a6, a7, a8, a9, a10, a11, a12, a13, a14])
                have a16 := not_ready (i := 16) hr hz rfl (by simp [Region.binds, a0, a1, a2, a3, a4, a5, a6, a7, a8, a9, a10, a11, a12, a13, a14, a15])
                have a17 := not_ready (i := 17) hr hz rfl (by simp [Region.binds, a0, a1, a2, a3, a4, a5, a6, a7, a8, a9, a10, a11, a12, a13, a14, a15, a16])
                have hY := hM0.get a16
                clear hr hz hv hZ a0 a1 a2 a3 a4 a5 a6 a7 a8 a9 a10 a11 a12 a13 a14 a15 a16 a17 hM0 hP12 hE
                obtain ⟨gs, rfl, hgs, hvs, hbs⟩ := hY
                obtain ⟨Fq, hFq⟩ : ∃ q, q = x.div y := ⟨_, rfl⟩
                rw [← hFq] at hvs ZF
                have HFQ : Hid (Fq = (g' i c).div (g' r c)) := Lib.hid (by rw [hFq, HXY.out.1, HXY.out.2])
                have hWL := (HBB.out.to hbs).cong (lrAt_start (n := n) (m := m) (r := r) (c := c) (i := i) (g := g'))
                have hgz : z ≤ gs := Nat.le_trans hzw hgs
                have hcC2 := keepc hbs hcC hlC
                have hlC2 := Nat.lt_of_lt_of_le hlC hbs.size
                have hri2 := keepc hbs R1.out hlO
                have hnC : gC ≠ gi ∧ gs ≠ gi := by omega
                clear hFq HXY HBB hcs hN hds hM ZZ hbs hgs r1 r2 p1 p2 hlO hzw hcC hlC R1 k1 k2
                go_upto_region 17 with fail
                go_loopw [13] (fun q (wr : World) => ∃ j : Nat, c ≤ j ∧ j ≤ m ∧ q = .int .i64 j ∧ HasP wr gs Fq ∧ WkP w1 z gO n m (lrAt r c g' i j) wr ∧ wr.cell? ⟨gO, i, none⟩ = some (.slice (some ⟨gi, 0, none⟩) m ki) ∧ wr.cell? ⟨gC, 0, none⟩ = some (.int .i64 c) ∧ gC < wr.heap.size) (fun q _ => m - (intOf q).toNat)
                case atStart => exact ⟨c, Nat.le_refl _, by omega, rfl, hvs, hWL, hri2, hcC2, hlC2⟩
                case round =>
                  obtain ⟨j, hj1, hj2, rfl, hvj, hBj, hri3, hcC, hlC⟩ := hrel
                  clear hvs hWL hri2 hcC2 hlC2
                  by_cases hjm : j < m
                  · obtain ⟨gi', ki', r1, r2, r3, hpe, hput⟩ := hBj.put hin hjm
                    rw [hri3] at r1
                    injection r1 with r1; injection r1 with e1 e2 e3
                    injection e1 with e1; injection e1 with e1
                    subst e1 e3
                    obtain ⟨gr, kr, p1, p2, _, p4⟩ := hBj.row hr2
                    obtain ⟨B1, B2, B3, hds, hM⟩ := p4 j hjm
                    rw [lrAt_i] at hpe
                    rw [lrAt_r hri] at hds hM
                    obtain ⟨A1, A2, A3, hcs, hN⟩ := hpe
                    obtain ⟨S1, S2, S3, hsc, hsn⟩ := hvj.slot
                    have hls := hvj.1
                    obtain ⟨x, hx⟩ : ∃ x, x = g' i j := ⟨_, rfl⟩
                    obtain ⟨y, hy⟩ : ∃ y, y = g' r j := ⟨_, rfl⟩
                    rw [← hx] at hcs hN
                    rw [← hy] at hds hM
                    have hBC := HBD.out r hr2
                    have zx : sz (bd K0 r) x := by rw [hx]; exact HGS.out i j hin hjm
                    have zy : sz (bd K0 r) y := by rw [hy]; exact HGS.out r j hr2 hjm
                    have zf := ZF.out
                    have zm := sz_mul2 zf zy
                    have ZZ := Lib.hid (And.intro (zx.mono (show _ ≤ 137438953472 by omega)) (And.intro (zy.mono (show _ ≤ 137438953472 by omega)) (And.intro (zf.mono (show _ ≤ 137438953472 by omega)) (zm.mono (show _ ≤ 137438953472 by omega)))))
                    have hnew : lrAt r c g' i (j + 1) i j = x.sub (Fq.mul y) := by rw [lrAt_new hri hj1, hx, hy, HFQ.out]
                    have HNEW := Lib.hid hnew
                    have l3 : (0 : Int) ≤ (j : Int) := by omega
                    have l4 : (j : Int) < (m : Int) := by omega
                    have hlO := hBj.lt
                    have HJ := Lib.hid (And.intro hri3 (And.intro hcC hlC))
                    have hgOi := hnz.1
                    clear hBj p4 hx hy zx zy zf zm hnew hBC hri3 hcC hlC
                    go_upto_region 19 with fail
                    refine wp_region_any (by kernel_rfl) ?_
                    refine wpAny_inv (fun l a' w' => ∃ V3 : Nat → Value, ∃ x14 x15 : Value, a' = ⟨List.toArray (.slice (some ⟨gO, 0, none⟩) n n :: undef :: .int .i64 0 :: .int .i64 0 :: .int .i64 ↑m :: .bool true :: .int .i64 ↑r :: .pointer (some ⟨gC, 0, none⟩) :: .int .i64 ↑p :: undef :: .slice (some ⟨gi, 0, none⟩) m ki :: .pointer (some ⟨gs, 0, none⟩) :: xa17 :: .int .i64 ↑j :: .tuple #[.int .i64 ↑m, .bool true] :: .slice A n cA :: .tuple #[.int .i64 ↑m, .bool true] :: .int .i64 ↑m :: .bool true :: .bool true :: .bool false :: .slice A n cA :: .slice (some ⟨gO, 0, none⟩) n n :: .int .i64 ↑m :: .int .i64 ↑c :: .bool true :: .int .i64 ↑c :: .slice (some ⟨gO, 0, none⟩) n n :: .int .i64 ↑r :: .slice (some ⟨gO, r, none⟩) (n - r) (n - r) :: .func (Fn.func 46) #[] #[.pointer (some ⟨gC, 0, none⟩)] :: .int .i64 ↑p :: .int .i64 ↑p :: .bool (decide (p < 0)) :: V 0 :: V 1 :: V 2 :: V 3 :: V 4 :: V 5 :: V 6 :: V 7 :: V 8 :: V 9 :: V 10 :: V 11 :: V 12 :: V 13 :: V 14 :: V 15 :: V 16 :: V 18 :: .slice (some ⟨gO, 0, none⟩) n n :: .int .i64 ↑r :: .int .i64 (↑r + 1) :: .slice (some { block := gO, off := r + 1 }) (n - (r + 1)) (n - (r + 1)) :: .int .i64 ↑(n - (r + 1)) :: .int .i64 ↑i0 :: .bool true :: .pointer (some { block := gO, off := r + 1 + i0 }) :: .slice (some ⟨gi, 0, none⟩) m ki :: xa12 :: V2 0 :: V2 1 :: V2 2 :: V2 3 :: V2 4 :: V2 5 :: V2 6 :: V2 7 :: V2 8 :: V2 9 :: V2 10 :: xa11 :: xa13 :: xa14 :: .int .i64 ↑c :: .int .i64 ↑j :: .int .i64 ↑m :: .bool true :: u80 :: u81 :: V3 0 :: V3 1 :: V3 2 :: V3 3 :: V3 4 :: V3 5 :: V3 6 :: V3 7 :: V3 8 :: V3 9 :: V3 10 :: V3 11 :: V3 12 :: V3 13 :: x14 :: x15 :: V3 16 :: u99 :: u100 :: u101 :: u102 :: undef :: []), []⟩ ∧ OnFix l V3 (fun zz => List.getD [.slice (some ⟨gi, 0, none⟩) m ki, .int .i64 j, .slice (some ⟨gi, 0, none⟩) m ki, .int .i64 j, .pointer (some ⟨gi, j * 5, none⟩), .agg #[.bool (sn (na x)), .slice A1 (ln (ab (na x))) (ln (ab (na x))), .bool (sn (nb x)), .slice A2 (ln (ab (nb x))) (ln (ab (nb x))), .slice A3 (ln (un x)) (ln (un x))], .agg #[.bool (sn (na Fq)), .slice S1 (ln (ab (na Fq))) (ln (ab (na Fq))), .bool (sn (nb Fq)), .slice S2 (ln (ab (nb Fq))) (ln (ab (nb Fq))), .slice S3 (ln (un Fq)) (ln (un Fq))], .slice (some ⟨gO, 0, none⟩) n n, .int .i64 r, .pointer (some ⟨gO, r, none⟩), .slice (some ⟨gr, 0, none⟩) m kr, .int .i64 j, .pointer (some ⟨gr, j * 5, none⟩), .agg #[.bool (sn (na y)), .slice B1 (ln (ab (na y))) (ln (ab (na y))), .bool (sn (nb y)), .slice B2 (ln (ab (nb y))) (ln (ab (nb y))), .slice B3 (ln (un y)) (ln (un y))], undef, undef, .pointer (some ⟨gi, j * 5, none⟩), undef] zz undef) [0, 1, 2, 3, 4, 5, 6, 7, 8, 9, 10, 11, 12, 13, 16] ∧ Off l 17 (Below wr.heap.size wr w' ∧ On l 14 (SlotNum w' x14 (Fq.mul y)) ∧ On l 15 (SlotNum w' x15 (x.sub (Fq.mul y)))) ∧ On l 17 (HasP w' gs Fq ∧ WkP w1 z gO n m (lrAt r c g' i (j + 1)) w' ∧ w'.cell? ⟨gO, i, none⟩ = some (.slice (some ⟨gi, 0, none⟩) m ki) ∧ w'.cell? ⟨gC, 0, none⟩ = some (.int .i64 c) ∧ gC < w'.heap.size) ∧ Edg l [(17, 15), (15, 5), (15, 14), (14, 6), (14, 13), (13, 12), (12, 10)] ∧ l.size = 18) ?_ ?_ _ _ _ _ (by decide) ?_
                    · intro l a' W' i hi hI
                      obtain ⟨V3, x14, x15, rfl, hv, hZ, hM0, hE, hz⟩ := hI
                      obtain ⟨hlt, hoff, hpre⟩ := ready_pre hi
                      have hc : i ∈ [0, 1, 2, 3, 4, 5, 6, 7, 8, 9, 10, 11, 12, 13, 14, 15, 16, 17] := (by decide : ∀ i, i < 18 → i ∈ [0, 1, 2, 3, 4, 5, 6, 7, 8, 9, 10, 11, 12, 13, 14, 15, 16, 17]) i hlt
                      simp only [List.mem_cons, List.not_mem_nil, or_false] at hc
                      clear hi hlt
                      rcases hc with rfl | rfl | rfl | rfl | rfl | rfl | rfl | rfl | rfl | rfl | rfl | rfl | rfl | rfl | rfl | rfl | rfl | rfl <;> (have hp := hpre _ rfl; simp [Region.binds] at hp; clear hpre)
                      · skip
                        have HV := Lib.hid hv
                        clear hv
                        refine wpOp_go rfl rfl (fun K hK => ?_)
                        go_simp
                        refine hK _ _ ?_
                        exact ⟨_, _, _, rfl, HV.out.new (x := .slice (some ⟨gi, 0, none⟩) m ki) rfl, hZ.keep.map (fun ⟨hb0, y14, y15⟩ => ⟨hb0, y14.keep (by decide), y15.keep (by decide)⟩), hM0.keep (by decide), hE.mono (by decide), by simp [hz]⟩
                      · skip
                        have HV := Lib.hid hv
                        clear hv
                        refine wpOp_go rfl rfl (fun K hK => ?_)
                        go_simp
                        refine hK _ _ ?_
                        exact ⟨_, _, _, rfl, HV.out.new (x := .int .i64 j) rfl, hZ.keep.map (fun ⟨hb0, y14, y15⟩ => ⟨hb0, y14.keep (by decide), y15.keep (by decide)⟩), hM0.keep (by decide), hE.mono (by decide), by simp [hz]⟩
                      · skip
                        have HV := Lib.hid hv
                        clear hv
                        refine wpOp_go rfl rfl (fun K hK => ?_)
                        go_simp
                        refine hK _ _ ?_
                        exact ⟨_, _, _, rfl, HV.out.new (x := .slice (some ⟨gi, 0, none⟩) m ki) rfl, hZ.keep.map (fun ⟨hb0, y14, y15⟩ => ⟨hb0, y14.keep (by decide), y15.keep (by decide)⟩), hM0.keep (by decide), hE.mono (by decide), by simp [hz]⟩
                      · skip
                        have HV := Lib.hid hv
                        clear hv
                        refine wpOp_go rfl rfl (fun K hK => ?_)
                        go_simp
                        refine hK _ _ ?_
                        exact ⟨_, _, _, rfl, HV.out.new (x := .int .i64 j) rfl, hZ.keep.map (fun ⟨hb0, y14, y15⟩ => ⟨hb0, y14.keep (by decide), y15.keep (by decide)⟩), hM0.keep (by decide), hE.mono (by decide), by simp [hz]⟩
                      · skip
                        have e2 : V3 2 = .slice (some ⟨gi, 0, none⟩) m ki := hv.get 2 (by decide) (by simp [hp])
                        have e3 : V3 3 = .int .i64 j := hv.get 3 (by decide) (by simp [hp])
                        have HV := Lib.hid ((hv.fixE e2 rfl).fixE e3 rfl)
                        clear hv
                        simp only [e2, e3]
                        refine wpOp_go rfl rfl (fun K hK => ?_)
                        go_simp
                        refine hK _ _ ?_
                        exact ⟨_, _, _, rfl, HV.out.new (x := .pointer (some ⟨gi, j * 5, none⟩)) rfl, hZ.keep.map (fun ⟨hb0, y14, y15⟩ => ⟨hb0, y14.keep (by decide), y15.keep (by decide)⟩), hM0.keep (by decide), hE.mono (by decide), by simp [hz]⟩
                      · skip
                        have e4 : V3 4 = .pointer (some ⟨gi, j * 5, none⟩) := hv.get 4 (by decide) (by simp [hp])
                        have HV := Lib.hid (hv.fixE e4 rfl)
                        clear hv
                        simp only [e4]
                        have hY := hZ.get (fun h => off hoff (hE.get 15 5 (by decide) (hE.get 17 15 (by decide) h)))
                        obtain ⟨z0, z1, z2, z3, z4⟩ := hcs
                        have y0 := keepc hY.1 z0 r2; have y1 := keepc hY.1 z1 r2; have y2 := keepc hY.1 z2 r2; have y3 := keepc hY.1 z3 r2; have y4 := keepc hY.1 z4 r2
                        refine wpOp_go rfl rfl (fun K hK => ?_)
                        go_simp
                        refine hK _ _ ?_
                        exact ⟨_, _, _, rfl, HV.out.new (x := .agg #[.bool (sn (na x)), .slice A1 (ln (ab (na x))) (ln (ab (na x))), .bool (sn (nb x)), .slice A2 (ln (ab (nb x))) (ln (ab (nb x))), .slice A3 (ln (un x)) (ln (un x))]) rfl, hZ.keep.map (fun ⟨hb0, y14, y15⟩ => ⟨hb0, y14.keep (by decide), y15.keep (by decide)⟩), hM0.keep (by decide), hE.mono (by decide), by simp [hz]⟩
                      · skip
                        have HV := Lib.hid hv
                        clear hv
                        have hY := hZ.get (fun h => off hoff (hE.get 14 6 (by decide) (hE.get 15 14 (by decide) (hE.get 17 15 (by decide) h))))
                        obtain ⟨z0, z1, z2, z3, z4⟩ := hsc
                        have y0 := keepc hY.1 z0 hls; have y1 := keepc hY.1 z1 hls; have y2 := keepc hY.1 z2 hls; have y3 := keepc hY.1 z3 hls; have y4 := keepc hY.1 z4 hls
                        refine wpOp_go rfl rfl (fun K hK => ?_)
                        go_simp
                        refine hK _ _ ?_
                        exact ⟨_, _, _, rfl, HV.out.new (x := .agg #[.bool (sn (na Fq)), .slice S1 (ln (ab (na Fq))) (ln (ab (na Fq))), .bool (sn (nb Fq)), .slice S2 (ln (ab (nb Fq))) (ln (ab (nb Fq))), .slice S3 (ln (un Fq)) (ln (un Fq))]) rfl, hZ.keep.map (fun ⟨hb0, y14, y15⟩ => ⟨hb0, y14.keep (by decide), y15.keep (by decide)⟩), hM0.keep (by decide), hE.mono (by decide), by simp [hz]⟩
                      · skip
                        have HV := Lib.hid hv
                        clear hv
                        refine wpOp_go rfl rfl (fun K hK => ?_)
                        go_simp
                        refine hK _ _ ?_
                        exact ⟨_, _, _, rfl, HV.out.new (x := .slice (some ⟨gO, 0, none⟩) n n) rfl, hZ.keep.map (fun ⟨hb0, y14, y15⟩ => ⟨hb0, y14.keep (by decide), y15.keep (by decide)⟩), hM0.keep (by decide), hE.mono (by decide), by simp [hz]⟩
                      · skip
                        have HV := Lib.hid hv
                        clear hv
                        refine wpOp_go rfl rfl (fun K hK => ?_)
                        go_simp
                        refine hK _ _ ?_
                        exact ⟨_, _, _, rfl, HV.out.new (x := .int .i64 r) rfl, hZ.keep.map (fun ⟨hb0, y14, y15⟩ => ⟨hb0, y14.keep (by decide), y15.keep (by decide)⟩), hM0.keep (by decide), hE.mono (by decide), by simp [hz]⟩
                      · skip
                        have e7 : V3 7 = .slice (some ⟨gO, 0, none⟩) n n := hv.get 7 (by decide) (by simp [hp])
                        have e8 : V3 8 = .int .i64 r := hv.get 8 (by decide) (by simp [hp])
                        have HV := Lib.hid ((hv.fixE e7 rfl).fixE e8 rfl)
                        clear hv
                        simp only [e7, e8]
                        refine wpOp_go rfl rfl (fun K hK => ?_)
                        go_simp
                        refine hK _ _ ?_
                        exact ⟨_, _, _, rfl, HV.out.new (x := .pointer (some ⟨gO, r, none⟩)) rfl, hZ.keep.map (fun ⟨hb0, y14, y15⟩ => ⟨hb0, y14.keep (by decide), y15.keep (by decide)⟩), hM0.keep (by decide), hE.mono (by decide), by simp [hz]⟩
                      · skip
                        have e9 : V3 9 = .pointer (some ⟨gO, r, none⟩) := hv.get 9 (by decide) (by simp [hp])
                        have HV := Lib.hid (hv.fixE e9 rfl)
                        clear hv
                        simp only [e9]
                        have hY := hZ.get (fun h => off hoff (hE.get 12 10 (by decide) (hE.get 13 12 (by decide) (hE.get 14 13 (by decide) (hE.get 15 14 (by decide) (hE.get 17 15 (by decide) h))))))
                        have z := keepc hY.1 p1 hlO
                        refine wpOp_go rfl rfl (fun K hK => ?_)
                        go_simp
                        refine hK _ _ ?_
                        exact ⟨_, _, _, rfl, HV.out.new (x := .slice (some ⟨gr, 0, none⟩) m kr) rfl, hZ.keep.map (fun ⟨hb0, y14, y15⟩ => ⟨hb0, y14.keep (by decide), y15.keep (by decide)⟩), hM0.keep (by decide), hE.mono (by decide), by simp [hz]⟩
                      · skip
                        have HV := Lib.hid hv
                        clear hv
                        refine wpOp_go rfl rfl (fun K hK => ?_)
                        go_simp
                        refine hK _ _ ?_
                        exact ⟨_, _, _, rfl, HV.out.new (x := .int .i64 j) rfl, hZ.keep.map (fun ⟨hb0, y14, y15⟩ => ⟨hb0, y14.keep (by decide), y15.keep (by decide)⟩), hM0.keep (by decide), hE.mono (by decide), by simp [hz]⟩
                      · skip
                        have e10 : V3 10 = .slice (some ⟨gr, 0, none⟩) m kr := hv.get 10 (by decide) (by simp [hp])
                        have e11 : V3 11 = .int .i64 j := hv.get 11 (by decide) (by simp [hp])
                        have HV := Lib.hid ((hv.fixE e10 rfl).fixE e11 rfl)
                        clear hv
                        simp only [e10, e11]
                        refine wpOp_go rfl rfl (fun K hK => ?_)
                        go_simp
                        refine hK _ _ ?_
                        exact ⟨_, _, _, rfl, HV.out.new (x := .pointer (some ⟨gr, j * 5, none⟩)) rfl, hZ.keep.map (fun ⟨hb0, y14, y15⟩ => ⟨hb0, y14.keep (by decide), y15.keep (by decide)⟩), hM0.keep (by decide), hE.step (by simp [hp]), by simp [hz]⟩
                      · skip
                        have e12 : V3 12 = .pointer (some ⟨gr, j * 5, none⟩) := hv.get 12 (by decide) (by simp [hp])
                        have HV := Lib.hid (hv.fixE e12 rfl)
                        clear hv
                        simp only [e12]
                        have hY := hZ.get (fun h => off hoff (hE.get 14 13 (by decide) (hE.get 15 14 (by decide) (hE.get 17 15 (by decide) h))))
                        obtain ⟨z0, z1, z2, z3, z4⟩ := hds
                        have y0 := keepc hY.1 z0 p2; have y1 := keepc hY.1 z1 p2; have y2 := keepc hY.1 z2 p2; have y3 := keepc hY.1 z3 p2; have y4 := keepc hY.1 z4 p2
                        refine wpOp_go rfl rfl (fun K hK => ?_)
                        go_simp
                        refine hK _ _ ?_
                        exact ⟨_, _, _, rfl, HV.out.new (x := .agg #[.bool (sn (na y)), .slice B1 (ln (ab (na y))) (ln (ab (na y))), .bool (sn (nb y)), .slice B2 (ln (ab (nb y))) (ln (ab (nb y))), .slice B3 (ln (un y)) (ln (un y))]) rfl, hZ.keep.map (fun ⟨hb0, y14, y15⟩ => ⟨hb0, y14.keep (by decide), y15.keep (by decide)⟩), hM0.keep (by decide), hE.step (by simp [hp]), by simp [hz]⟩
                      · skip
                        have e6 : V3 6 = .agg #[.bool (sn (na Fq)), .slice S1 (ln (ab (na Fq))) (ln (ab (na Fq))), .bool (sn (nb Fq)), .slice S2 (ln (ab (nb Fq))) (ln (ab (nb Fq))), .slice S3 (ln (un Fq)) (ln (un Fq))] := hv.get 6 (by decide) (by simp [hp])
                        have e13 : V3 13 = .agg #[.bool (sn (na y)), .slice B1 (ln (ab (na y))) (ln (ab (na y))), .bool (sn (nb y)), .slice B2 (ln (ab (nb y))) (ln (ab (nb y))), .slice B3 (ln (un y)) (ln (un y))] := hv.get 13 (by decide) (by simp [hp])
                        have HV := Lib.hid ((hv.fixE e6 rfl).fixE e13 rfl)
                        clear hv
                        simp only [e6, e13]
                        have hY := hZ.get (fun h => off hoff (hE.get 15 14 (by decide) (hE.get 17 15 (by decide) h)))
                        refine wpOp_go rfl rfl (fun K hK => ?_)
                        go_wp2_with (first | (go_at_call 10; refine (mul_num Fq y S1 S2 S3 B1 B2 B3 _ (hsn.to hY.1) (hM.to hY.1) ZZ.out.2.2.1 ZZ.out.2.1).mono ?_; rintro e wf ⟨E1, E2, E3, rfl, hNN, hb⟩))
                        try refine hK _ _ ?_
                        exact ⟨_, _, _, rfl, HV.out.other (by decide), Off.new ⟨hY.1.trans (hb.mono hY.1.size), On.new (⟨E1, E2, E3, rfl, hNN⟩), ((hY.2.2).keep (by decide)).map (fun h => h.to hb)⟩, fun h => absurd (hE.get 15 14 (by decide) (hE.get 17 15 (by decide) (on_ne h (by decide)))) (off hoff), hE.step (by simp [hp]), by simp [hz]⟩
                      · skip
                        have e5 : V3 5 = .agg #[.bool (sn (na x)), .slice A1 (ln (ab (na x))) (ln (ab (na x))), .bool (sn (nb x)), .slice A2 (ln (ab (nb x))) (ln (ab (nb x))), .slice A3 (ln (un x)) (ln (un x))] := hv.get 5 (by decide) (by simp [hp])
                        have HV := Lib.hid (hv.fixE e5 rfl)
                        clear hv
                        simp only [e5]
                        have hY := hZ.get (fun h => off hoff (hE.get 17 15 (by decide) h))
                        obtain ⟨G1, G2, G3, e0, hMM⟩ := hY.2.1.get (by simp [hp])
                        subst e0
                        refine wpOp_go rfl rfl (fun K hK => ?_)
                        go_wp2_with (first | (go_at_call 47; refine (sub_num x (Fq.mul y) A1 A2 A3 G1 G2 G3 _ (hN.to hY.1) hMM ZZ.out.1 ZZ.out.2.2.2).mono ?_; rintro e wf ⟨E1, E2, E3, rfl, hNN, hb⟩))
                        try refine hK _ _ ?_
                        exact ⟨_, _, _, rfl, HV.out.other (by decide), Off.new ⟨hY.1.trans (hb.mono hY.1.size), ((hY.2.1).keep (by decide)).map (fun h => h.to hb), On.new (⟨E1, E2, E3, rfl, hNN⟩)⟩, fun h => absurd (hE.get 17 15 (by decide) (on_ne h (by decide))) (off hoff), hE.step (by simp [hp]), by simp [hz]⟩
                      · skip
                        have e0 : V3 0 = .slice (some ⟨gi, 0, none⟩) m ki := hv.get 0 (by decide) (by simp [hp])
                        have e1 : V3 1 = .int .i64 j := hv.get 1 (by decide) (by simp [hp])
                        have HV := Lib.hid ((hv.fixE e0 rfl).fixE e1 rfl)
                        clear hv
                        simp only [e0, e1]
                        refine wpOp_go rfl rfl (fun K hK => ?_)
                        go_simp
                        refine hK _ _ ?_
                        exact ⟨_, _, _, rfl, HV.out.new (x := .pointer (some ⟨gi, j * 5, none⟩)) rfl, hZ.keep.map (fun ⟨hb0, y14, y15⟩ => ⟨hb0, y14.keep (by decide), y15.keep (by decide)⟩), hM0.keep (by decide), hE.mono (by decide), by simp [hz]⟩
                      · skip
                        have e16 : V3 16 = .pointer (some ⟨gi, j * 5, none⟩) := hv.get 16 (by decide) (by simp [hp])
                        have HV := Lib.hid (hv.fixE e16 rfl)
                        clear hv
                        simp only [e16]
                        have hY := hZ.get (off hoff)
                        obtain ⟨E1, E2, E3, e1, hNN⟩ := hY.2.2.get (by simp [hp])
                        subst e1
                        have hvk := hvj.to hY.1
                        have hk1 := keepc hY.1 HJ.out.1 hlO
                        have hk2 := keepc hY.1 HJ.out.2.1 HJ.out.2.2
                        obtain ⟨⟨u0, u1, u2, u3, u4, d0, d1, d2, d3, d4⟩, ⟨f0, f1, f2, f3, f4⟩, ⟨cb, hcb⟩, hfin⟩ := hput W' hY.1
                        refine wpOp_go rfl rfl (fun K hK => ?_)
                        go_simp
                        refine hK _ _ ?_
                        obtain ⟨XX, hX⟩ : ∃ XX : World, XX = set5o W' gi (j * 5) (x.sub (Fq.mul y)) E1 E2 E3 := ⟨_, rfl⟩
                        have hw : set5o W' gi (j * 5) (x.sub (Fq.mul y)) E1 E2 E3 = XX := hX.symm
                        unfold set5o at hw
                        rw [hw]
                        subst hX
                        exact ⟨_, _, _, rfl, HV.out.other (by decide), Off.done (by omega), On.new (⟨hvk.set5o hnC.2 hcb, hfin (lrAt r c g' i (j + 1)) _ E1 E2 E3 hNN HNEW.out (fun a b _ _ h => lrAt_old h), set5o_cell hk1 (.inl (Ne.symm hgOi)), set5o_cell hk2 (.inl hnC.1), by rw [set5o_size]; exact Nat.lt_of_lt_of_le HJ.out.2.2 hY.1.size⟩), hE.step (by simp [hp]), by simp [hz]⟩
                    · intro l a' W' hr hI
                      obtain ⟨V3, x14, x15, rfl, hv, hZ, hM0, hE, hz⟩ := hI
                      have a0 := not_ready (i := 0) hr hz rfl (by simp [Region.binds])
                      have a1 := not_ready (i := 1) hr hz rfl (by simp [Region.binds, a0])
                      have a2 := not_ready (i := 2) hr hz rfl (by simp [Region.binds, a0, a1])
                      have a3 := not_ready (i := 3) hr hz rfl (by simp [Region.binds, a0, a1, a2])
                      have a4 := not_ready (i := 4) hr hz rfl (by simp [Region.binds, a0, a1, a2, a3])
                      have a5 := not_ready (i := 5) hr hz rfl (by simp [Region.binds, a0, a1, a2, a3, a4])
                      have a6 := not_ready (i := 6) hr hz rfl (by simp [Region.binds, a0, a1, a2, a3, a4, a5])
                      have a7 := not_ready (i := 7) hr hz rfl (by simp [Region.binds, a0, a1, a2, a3, a4, a5, a6])
                      have a8 := not_ready (i := 8) hr hz rfl (by simp [Region.binds, a0, a1, a2, a3, a4, a5, a6, a7])
                      have a9 := not_ready (i := 9) hr hz rfl (by simp [Region.binds, a0, a1, a2, a3, a4, a5, a6, a7, a8])
                      have a10 := not_ready (i := 10) hr hz rfl (by simp [Region.binds, a0, a1, a2, a3, a4, a5, a6, a7, a8, a9])
                      have a11 := not_ready (i := 11) hr hz rfl (by simp [Region.binds, a0, a1, a2, a3, a4, a5, a6, a7, a8, a9, a10])
                      have a12 := not_ready (i := 12) hr hz rfl (by simp [Region.binds, a0, a1, a2, a3, a4, a5, a6, a7, a8, a9, a10, a11])
                      have a13 := not_ready (i := 13) hr hz rfl (by simp [Region.binds, a0, a1, a2, a3, a4, a5, a6, a7, a8, a9, a10, a11, a12])
                      have a14 := not_ready (i := 14) hr hz rfl (by simp [Region.binds, a0, a1, a2, a3, a4, a5, a6, a7, a8, a9, a10, a11, a12, a13])
                      have a15 := not_ready (i := 15) hr hz rfl (by simp [Region.binds, a0, a1, a2, a3, a4, a5, a6, a7, a8, a9, a10, a11, a12, a13, a14])
                      have a16 := not_ready (i := 16) hr hz rfl (by simp [Region.binds, a0, a1, a2, a3, a4, a5, a6, a7, a8, a9, a10, a11, a12, a13, a14, a15])
                      have a17 := not_ready (i := 17) hr hz rfl (by simp [Region.binds, a0, a1, a2, a3, a4, a5, a6, a7, a8, a9, a10, a11, a12, a13, a14, a15, a16])
                      have hY := hM0.get a17
                      clear hr hz hv hZ a0 a1 a2 a3 a4 a5 a6 a7 a8 a9 a10 a11 a12 a13 a14 a15 a16 a17 hM0 hE
                      go_wp2_with fail
                      go_roundw
                      case rel => exact ⟨j + 1, by omega, by omega, by go_num, hY⟩
                      case measure => simp [intOf]; omega
                    · exact ⟨fun zz => List.getD [u82, u83, u84, u85, u86, u87, u88, u89, u90, u91, u92, u93, u94, u95, u96, u97, u98, undef] zz undef, _, _, rfl, OnFix.start, Off.new ⟨((Below.refl _ _).drew), fun h => absurd h (by decide), fun h => absurd h (by decide)⟩, fun h => absurd h (by decide), Edg.start, by simp⟩
                  · obtain rfl : j = m := by omega
                    have HBJ := Lib.hid (hBj.cong lrAt_end)
                    have HJ := Lib.hid (And.intro hcC hlC)
                    clear hBj hcC hlC hri3
                    go_wp2_with fail
                    go_roundw
                    case rel => exact ⟨i0 + 1, by omega, by go_num, by rw [show r + 1 + (i0 + 1) = i + 1 by rw [HI.out]; rfl]; exact HBJ.out, HJ.out.1, HJ.out.2⟩
                    case measure => simp [intOf]; omega
              · exact ⟨fun zz => List.getD [u62, u63, u64, u65, u66, u67, u68, u69, u70, u71, u72, u73, u61, u74, u75, u11, undef, u12] zz undef, _, _, _, _, _, _, rfl, OnFix.start, Off.new ⟨((Below.refl _ _).drew), fun h => absurd h (by decide), fun h => absurd h (by decide), fun h => absurd h (by decide), fun h => absurd h (by decide)⟩, fun h => absurd h (by decide), fun h => absurd h (by decide), Edg.start, by simp⟩
            · obtain rfl : n = r + 1 + i0 := by omega
              have HWE := Lib.hid (hW.cong (lrTo_end (r := r) (c := c)))
              clear hW hcC hlC
              go_wp2_with fail
              go_roundw
              case rel => exact ⟨c + 1, r + 1, lowR r c g', by omega, by omega, by go_num, by go_num, HRR, hs1, HWE.out⟩
              case measure => simp [intOf]; omega
        · exact ⟨fun zz => List.getD [u34, u35, u36, u37, u38, u39, u40, u41, u42, u43, u44, u45, u46, u47, u48, u49, u50, undef, u51, undef] zz undef, rfl, OnFix.start, Off.new (((Below.refl _ _).drew)), fun h => absurd h (by decide), fun h => absurd h (by decide), Edg.start, by simp⟩
    · obtain rfl : c = m := by omega
      have e1 := HR.out
      rw [Nat.sub_self] at e1
      have HE : Hid (RetRank w R (.returned (.tuple #[.int .i64 r, .int .i64 0])) wr) := Lib.hid (by rw [← e1]; exact ⟨rfl, HB.out.trans (hW.below.mono HB.out.size)⟩)
      clear e1 hW
      go_wp2_with fail
      exact bodyPost_ret (v := .tuple #[.int .i64 r, .int .i64 0]) (by simp [results, Try.results15, go_sem]) rfl HE.out
end Go.Proofs.Ytdpjknjlhchmcaa

namespace Go.Proofs.Ytdpjknjlhchmcaa
open Go.RowKit Pl
set_option linter.unusedVariables false
set_option linter.unusedSimpArgs false
set_option maxRecDepth 100000 in
set_option maxHeartbeats 40000000 in
theorem same_true (w : World) (A B : Option Addr) (n m c c2 : Nat) (f g : Nat → Nat → Cx) (hA : MatP w A n (fun _ => m) f) (hB : MatP w B n (fun _ => m) g) (he : ∀ i k, i < n → k < m → f i k = g i k) (hS : ∀ i k, i < n → k < m → sz 137438953472 (f i k)) (hn : n ≤ 1000) (hm : m ≤ 1000) :
    Calls Try.prog 18 #[.slice A n c, .slice B n c2] w (RetBool w true) := by
  have HA := Lib.hid hA; have HB := Lib.hid hB; have HE := Lib.hid he; have HS := Lib.hid hS
  clear hA hB he hS
  have t0 : ((n : Int) != (n : Int)) = false := by rw [bne_eq_false_iff_eq]
  have t1 : ((m : Int) != (m : Int)) = false := by rw [bne_eq_false_iff_eq]
  go_enter Try.func18, Try.ntmps18
  go_upto_region 4 with fail
  go_loopw [14] (fun i (wr : World) => ∃ k : Nat, k ≤ n ∧ i = .int .i64 k ∧ Below w.heap.size w wr) (fun i _ => n - (intOf i).toNat)
  case atStart => exact ⟨0, Nat.zero_le _, rfl, Below.refl _ _⟩
  case round =>
    obtain ⟨i, hi, rfl, hb⟩ := hrel
    by_cases hin : i < n
    · obtain ⟨R, K, g1, g2⟩ := HA.out.to hb
      obtain ⟨bA, fo, rfl, hlA, r1⟩ := g1 i hin
      obtain ⟨R2, K2, q1, q2⟩ := HB.out.to hb
      obtain ⟨bB, fo2, rfl, hlB, p1⟩ := q1 i hin
      have HR := Lib.hid (g2 i hin)
      have HP := Lib.hid (q2 i hin)
      have HBW := Lib.hid hb
      have i1 : (0 : Int) ≤ (i : Int) := by omega
      have i2 : (i : Int) < (n : Int) := by omega
      generalize R i = Ri at *
      generalize K i = Ki at *
      generalize R2 i = Pi at *
      generalize K2 i = Li at *
      obtain ⟨wb, hwb⟩ : ∃ X : World, X = wr := ⟨_, rfl⟩
      rw [← hwb] at HR HP HBW hlA r1 hlB p1 ⊢
      clear g1 g2 q1 q2 hb hwb
      go_upto_region 6 with fail
      refine wp_region_any (by kernel_rfl) ?_
      refine wpAny_inv (fun l a' w' => ∃ V : Nat → Value, a' = ⟨#[.slice (some ⟨bA, fo, none⟩) n c, .slice (some ⟨bB, fo2, none⟩) n c2, undef, undef, u4, .int .i64 ↑i, u6, .slice (some ⟨bA, fo, none⟩) n c, .int .i64 ↑n, .slice (some ⟨bB, fo2, none⟩) n c2, .int .i64 ↑n, .bool false, .slice (some ⟨bA, fo, none⟩) n c, .int .i64 ↑n, .int .i64 ↑i, .bool true, .int .i64 ↑i, V 0, V 1, V 2, V 3, V 4, V 5, V 6, V 7, V 8, V 9, V 10, u28, u29, u30, u31, u32, u33, u34, u35, u36, u37, u38, u39, u40, u41, u42, u43, u44, u45, u46, u47, u48, u49, u50, u51, u52, u53], []⟩ ∧ OnFix l V (fun zz => List.getD [.slice (some ⟨bA, fo, none⟩) n c, .int .i64 i, .pointer (some ⟨bA, fo + i, none⟩), .slice Ri m Ki, .int .i64 m, .slice (some ⟨bB, fo2, none⟩) n c2, .int .i64 i, .pointer (some ⟨bB, fo2 + i, none⟩), .slice Pi m Li, .int .i64 m, .bool false] zz undef) [0, 1, 2, 3, 4, 5, 6, 7, 8, 9, 10] ∧ (Below wb.heap.size wb w') ∧ l.size = 11) ?_ ?_ _ _ _ _ (by decide) ?_
      · intro l a' W' i hi hI
        obtain ⟨V, rfl, hv, hZ, hz⟩ := hI
        obtain ⟨hlt, hoff, hpre⟩ := ready_pre hi
        have hc : i ∈ [0, 1, 2, 3, 4, 5, 6, 7, 8, 9, 10] := (by decide : ∀ i, i < 11 → i ∈ [0, 1, 2, 3, 4, 5, 6, 7, 8, 9, 10]) i hlt
        simp only [List.mem_cons, List.not_mem_nil, or_false] at hc
        clear hi hlt
        rcases hc with rfl | rfl | rfl | rfl | rfl | rfl | rfl | rfl | rfl | rfl | rfl <;> (have hp := hpre _ rfl; simp [Region.binds] at hp; clear hpre)
        · skip
          have HV := Lib.hid hv
          clear hv
          refine wpOp_go rfl rfl (fun K hK => ?_)
          go_simp
          refine hK _ _ ?_
          exact ⟨_, rfl, HV.out.new (x := .slice (some ⟨bA, fo, none⟩) n c) rfl, hZ, by simp [hz]⟩
        · skip
          have HV := Lib.hid hv
          clear hv
          refine wpOp_go rfl rfl (fun K hK => ?_)
          go_simp
          refine hK _ _ ?_
          exact ⟨_, rfl, HV.out.new (x := .int .i64 i) rfl, hZ, by simp [hz]⟩
        · skip
          have e0 : V 0 = .slice (some ⟨bA, fo, none⟩) n c := hv.get 0 (by decide) (by simp [hp])
          have e1 : V 1 = .int .i64 i := hv.get 1 (by decide) (by simp [hp])
          have HV := Lib.hid ((hv.fixE e0 rfl).fixE e1 rfl)
          clear hv
          simp only [e0, e1]
          refine wpOp_go rfl rfl (fun K hK => ?_)
          go_simp
          refine hK _ _ ?_
          exact ⟨_, rfl, HV.out.new (x := .pointer (some ⟨bA, fo + i, none⟩)) rfl, hZ, by simp [hz]⟩
        · skip
          have e2 : V 2 = .pointer (some ⟨bA, fo + i, none⟩) := hv.get 2 (by decide) (by simp [hp])
          have HV := Lib.hid (hv.fixE e2 rfl)
          clear hv
          simp only [e2]
          have hY := hZ
          have z := keepc hY r1 hlA
          refine wpOp_go rfl rfl (fun K hK => ?_)
          go_simp
          refine hK _ _ ?_
          exact ⟨_, rfl, HV.out.new (x := .slice Ri m Ki) rfl, hZ, by simp [hz]⟩
        · skip
          have e3 : V 3 = .slice Ri m Ki := hv.get 3 (by decide) (by simp [hp])
          have HV := Lib.hid (hv.fixE e3 rfl)
          clear hv
          simp only [e3]
          refine wpOp_go rfl rfl (fun K hK => ?_)
          go_simp
          refine hK _ _ ?_
          exact ⟨_, rfl, HV.out.new (x := .int .i64 m) rfl, hZ, by simp [hz]⟩
        · skip
          have HV := Lib.hid hv
          clear hv
          refine wpOp_go rfl rfl (fun K hK => ?_)
          go_simp
          refine hK _ _ ?_
          exact ⟨_, rfl, HV.out.new (x := .slice (some ⟨bB, fo2, none⟩) n c2) rfl, hZ, by simp [hz]⟩
        · skip
          have HV := Lib.hid hv
          clear hv
          refine wpOp_go rfl rfl (fun K hK => ?_)
          go_simp
          refine hK _ _ ?_
          exact ⟨_, rfl, HV.out.new (x := .int .i64 i) rfl, hZ, by simp [hz]⟩
        · skip
          have e5 : V 5 = .slice (some ⟨bB, fo2, none⟩) n c2 := hv.get 5 (by decide) (by simp [hp])
          have e6 : V 6 = .int .i64 i := hv.get 6 (by decide) (by simp [hp])
          have HV := Lib.hid ((hv.fixE e5 rfl).fixE e6 rfl)
          clear hv
          simp only [e5, e6]
          refine wpOp_go rfl rfl (fun K hK => ?_)
          go_simp
          refine hK _ _ ?_
          exact ⟨_, rfl, HV.out.new (x := .pointer (some ⟨bB, fo2 + i, none⟩)) rfl, hZ, by simp [hz]⟩
        · skip
          have e7 : V 7 = .pointer (some ⟨bB, fo2 + i, none⟩) := hv.get 7 (by decide) (by simp [hp])
          have HV := Lib.hid (hv.fixE e7 rfl)
          clear hv
          simp only [e7]
          have hY := hZ
          have z := keepc hY p1 hlB
          refine wpOp_go rfl rfl (fun K hK => ?_)
          go_simp
          refine hK _ _ ?_
          exact ⟨_, rfl, HV.out.new (x := .slice Pi m Li) rfl, hZ, by simp [hz]⟩
        · skip
          have e8 : V 8 = .slice Pi m Li := hv.get 8 (by decide) (by simp [hp])
          have HV := Lib.hid (hv.fixE e8 rfl)
          clear hv
          simp only [e8]
          refine wpOp_go rfl rfl (fun K hK => ?_)
          go_simp
          refine hK _ _ ?_
          exact ⟨_, rfl, HV.out.new (x := .int .i64 m) rfl, hZ, by simp [hz]⟩
        · skip
          have e4 : V 4 = .int .i64 m := hv.get 4 (by decide) (by simp [hp])
          have e9 : V 9 = .int .i64 m := hv.get 9 (by decide) (by simp [hp])
          have HV := Lib.hid ((hv.fixE e4 rfl).fixE e9 rfl)
          clear hv
          simp only [e4, e9]
          refine wpOp_go rfl rfl (fun K hK => ?_)
          go_simp
          refine hK _ _ ?_
          exact ⟨_, rfl, HV.out.new (x := .bool false) rfl, hZ, by simp [hz]⟩
      · intro l a' W' hr hI
        obtain ⟨V, rfl, hv, hZ, hz⟩ := hI
        have a0 := not_ready (i := 0) hr hz rfl (by simp [Region.binds])
        have a1 := not_ready (i := 1) hr hz rfl (by simp [Region.binds, a0])
        have a2 := not_ready (i := 2) hr hz rfl (by simp [Region.binds, a0, a1])
        have a3 := not_ready (i := 3) hr hz rfl (by simp [Region.binds, a0, a1, a2])
        have a4 := not_ready (i := 4) hr hz rfl (by simp [Region.binds, a0, a1, a2, a3])
        have a5 := not_ready (i := 5) hr hz rfl (by simp [Region.binds, a0, a1, a2, a3, a4])
        have a6 := not_ready (i := 6) hr hz rfl (by simp [Region.binds, a0, a1, a2, a3, a4, a5])
        have a7 := not_ready (i := 7) hr hz rfl (by simp [Region.binds, a0, a1, a2, a3, a4, a5, a6])
        have a8 := not_ready (i := 8) hr hz rfl (by simp [Region.binds, a0, a1, a2, a3, a4, a5, a6, a7])
        have a9 := not_ready (i := 9) hr hz rfl (by simp [Region.binds, a0, a1, a2, a3, a4, a5, a6, a7, a8])
        have a10 := not_ready (i := 10) hr hz rfl (by simp [Region.binds, a0, a1, a2, a3, a4, a5, a6, a7, a8, a9])
        have hY := hZ
        have hF10 := hv.get 10 (by decide) a10
        clear hr hz hv hZ a0 a1 a2 a3 a4 a5 a6 a7 a8 a9 a10 
        rw [hF10]
        obtain ⟨w6, hw6⟩ : ∃ X : World, X = W' := ⟨_, rfl⟩
        rw [← hw6] at hY ⊢
        have hb0 : Below wb.heap.size wb w6 := hY
        have r1w := keepc hb0 r1 hlA
        clear hF10 hY hw6
        go_upto_region 9 with fail
        clear r1w
        go_loopw [33] (fun i (wr : World) => ∃ k : Nat, k ≤ m ∧ i = .int .i64 k ∧ Below wb.heap.size wb wr) (fun i _ => m - (intOf i).toNat)
        case atStart => exact ⟨0, Nat.zero_le _, rfl, hb0⟩
        case round =>
          obtain ⟨k, hk, rfl, hb⟩ := hrel
          clear hb0
          by_cases hkm : k < m
          · obtain ⟨ga, ea, hpa⟩ := HR.out k hkm
            obtain ⟨gb, eb, hpb⟩ := HP.out k hkm
            obtain ⟨A1, A2, A3, hcs, hN⟩ := hpa.to hb
            obtain ⟨B1, B2, B3, hds, hM⟩ := hpb.to hb
            have r2 := World.block_lt_of_cell? wr ⟨ga, _, none⟩ hcs.1
            have p2 := World.block_lt_of_cell? wr ⟨gb, _, none⟩ hds.1
            subst ea
            subst eb
            have r3 := keepc hb r1 hlA
            have p3 := keepc hb p1 hlB
            have hlA2 := Nat.lt_of_lt_of_le hlA hb.size
            have hlB2 := Nat.lt_of_lt_of_le hlB hb.size
            obtain ⟨x, hx⟩ : ∃ x, x = f i k := ⟨_, rfl⟩
            obtain ⟨y, hy⟩ : ∃ y, y = g i k := ⟨_, rfl⟩
            rw [← hx] at hcs hN
            rw [← hy] at hds hM
            have zx : sz 137438953472 x := by rw [hx]; exact HS.out i k hin hkm
            have hxy : x = y := by rw [hx, hy]; exact HE.out i k hin hkm
            have zy : sz 137438953472 y := by rw [← hxy]; exact zx
            have ZZ := Lib.hid (And.intro zx (And.intro zy (show decide (x = y) = true from decide_eq_true hxy)))
            have HBB := Lib.hid hb
            have i3 : (0 : Int) ≤ (k : Int) := by omega
            have i4 : (k : Int) < (m : Int) := by omega
            clear hb hpa hpb hx hy zx zy hxy r1 p1 hlA hlB
            go_upto_region 11 with fail
            refine wp_region_any (by kernel_rfl) ?_
            refine wpAny_inv (fun l a' w' => ∃ V2 : Nat → Value, ∃ x14 x15 : Value, a' = ⟨#[.slice (some ⟨bA, fo, none⟩) n c, .slice (some ⟨bB, fo2, none⟩) n c2, undef, undef, u4, .int .i64 ↑i, .int .i64 ↑k, .slice (some ⟨bA, fo, none⟩) n c, .int .i64 ↑n, .slice (some ⟨bB, fo2, none⟩) n c2, .int .i64 ↑n, .bool false, .slice (some ⟨bA, fo, none⟩) n c, .int .i64 ↑n, .int .i64 ↑i, .bool true, .int .i64 ↑i, V 0, V 1, V 2, V 3, V 4, V 5, V 6, V 7, V 8, V 9, .bool false, .slice (some ⟨bA, fo, none⟩) n c, .int .i64 ↑i, .pointer (some { block := bA, off := fo + i }), .slice (some ⟨ga, 0, none⟩) m Ki, .int .i64 ↑m, .int .i64 ↑k, .bool true, .int .i64 ↑k, V2 0, V2 1, V2 2, V2 3, V2 4, V2 5, V2 6, V2 7, V2 8, V2 9, V2 10, V2 11, V2 12, V2 13, x14, x15, u52, u53], []⟩ ∧ OnFix l V2 (fun zz => List.getD [.slice (some ⟨bA, fo, none⟩) n c, .int .i64 i, .pointer (some ⟨bA, fo + i, none⟩), .slice (some ⟨ga, 0, none⟩) m Ki, .int .i64 k, .pointer (some ⟨ga, k * 5, none⟩), .agg #[.bool (sn (na x)), .slice A1 (ln (ab (na x))) (ln (ab (na x))), .bool (sn (nb x)), .slice A2 (ln (ab (nb x))) (ln (ab (nb x))), .slice A3 (ln (un x)) (ln (un x))], .slice (some ⟨bB, fo2, none⟩) n c2, .int .i64 i, .pointer (some ⟨bB, fo2 + i, none⟩), .slice (some ⟨gb, 0, none⟩) m Li, .int .i64 k, .pointer (some ⟨gb, k * 5, none⟩), .agg #[.bool (sn (na y)), .slice B1 (ln (ab (na y))) (ln (ab (na y))), .bool (sn (nb y)), .slice B2 (ln (ab (nb y))) (ln (ab (nb y))), .slice B3 (ln (un y)) (ln (un y))], undef, undef] zz undef) [0, 1, 2, 3, 4, 5, 6, 7, 8, 9, 10, 11, 12, 13] ∧ (Below wr.heap.size wr w' ∧ On l 14 (SlotB w' x14 true)) ∧ On l 14 (x14 = .bool true) ∧ On l 15 (x15 = .bool false) ∧ l.size = 16) ?_ ?_ _ _ _ _ (by decide) ?_
            · intro l a' W' i hi hI
              obtain ⟨V2, x14, x15, rfl, hv, hZ, hP14, hP15, hz⟩ := hI
              obtain ⟨hlt, hoff, hpre⟩ := ready_pre hi
              have hc : i ∈ [0, 1, 2, 3, 4, 5, 6, 7, 8, 9, 10, 11, 12, 13, 14, 15] := (by decide : ∀ i, i < 16 → i ∈ [0, 1, 2, 3, 4, 5, 6, 7, 8, 9, 10, 11, 12, 13, 14, 15]) i hlt
              simp only [List.mem_cons, List.not_mem_nil, or_false] at hc
              clear hi hlt
              rcases hc with rfl | rfl | rfl | rfl | rfl | rfl | rfl | rfl | rfl | rfl | rfl | rfl | rfl | rfl | rfl | rfl <;> (have hp := hpre _ rfl; simp [Region.binds] at hp; clear hpre)
              · skip
                have HV := Lib.hid hv
                clear hv
                refine wpOp_go rfl rfl (fun K hK => ?_)
                go_simp
                refine hK _ _ ?_
                exact ⟨_, _, _, rfl, HV.out.new (x := .slice (some ⟨bA, fo, none⟩) n c) rfl, (fun ⟨hb0, y14⟩ => ⟨hb0, y14.keep (by decide)⟩) hZ, hP14.keep (j := 0) (by decide), hP15.keep (j := 0) (by decide), by simp [hz]⟩
              · skip
                have HV := Lib.hid hv
                clear hv
                refine wpOp_go rfl rfl (fun K hK => ?_)
                go_simp
                refine hK _ _ ?_
                exact ⟨_, _, _, rfl, HV.out.new (x := .int .i64 i) rfl, (fun ⟨hb0, y14⟩ => ⟨hb0, y14.keep (by decide)⟩) hZ, hP14.keep (j := 1) (by decide), hP15.keep (j := 1) (by decide), by simp [hz]⟩
              · skip
                have e0 : V2 0 = .slice (some ⟨bA, fo, none⟩) n c := hv.get 0 (by decide) (by simp [hp])
                have e1 : V2 1 = .int .i64 i := hv.get 1 (by decide) (by simp [hp])
                have HV := Lib.hid ((hv.fixE e0 rfl).fixE e1 rfl)
                clear hv
                simp only [e0, e1]
                refine wpOp_go rfl rfl (fun K hK => ?_)
                go_simp
                refine hK _ _ ?_
                exact ⟨_, _, _, rfl, HV.out.new (x := .pointer (some ⟨bA, fo + i, none⟩)) rfl, (fun ⟨hb0, y14⟩ => ⟨hb0, y14.keep (by decide)⟩) hZ, hP14.keep (j := 2) (by decide), hP15.keep (j := 2) (by decide), by simp [hz]⟩
              · skip
                have e2 : V2 2 = .pointer (some ⟨bA, fo + i, none⟩) := hv.get 2 (by decide) (by simp [hp])
                have HV := Lib.hid (hv.fixE e2 rfl)
                clear hv
                simp only [e2]
                have hY := hZ
                have z := keepc hY.1 r3 hlA2
                refine wpOp_go rfl rfl (fun K hK => ?_)
                go_simp
                refine hK _ _ ?_
                exact ⟨_, _, _, rfl, HV.out.new (x := .slice (some ⟨ga, 0, none⟩) m Ki) rfl, (fun ⟨hb0, y14⟩ => ⟨hb0, y14.keep (by decide)⟩) hZ, hP14.keep (j := 3) (by decide), hP15.keep (j := 3) (by decide), by simp [hz]⟩
              · skip
                have HV := Lib.hid hv
                clear hv
                refine wpOp_go rfl rfl (fun K hK => ?_)
                go_simp
                refine hK _ _ ?_
                exact ⟨_, _, _, rfl, HV.out.new (x := .int .i64 k) rfl, (fun ⟨hb0, y14⟩ => ⟨hb0, y14.keep (by decide)⟩) hZ, hP14.keep (j := 4) (by decide), hP15.keep (j := 4) (by decide), by simp [hz]⟩
              · skip
                have e3 : V2 3 = .slice (some ⟨ga, 0, none⟩) m Ki := hv.get 3 (by decide) (by simp [hp])
                have e4 : V2 4 = .int .i64 k := hv.get 4 (by decide) (by simp [hp])
                have HV := Lib.hid ((hv.fixE e3 rfl).fixE e4 rfl)
                clear hv
                simp only [e3, e4]
                refine wpOp_go rfl rfl (fun K hK => ?_)
                go_simp
                refine hK _ _ ?_
                exact ⟨_, _, _, rfl, HV.out.new (x := .pointer (some ⟨ga, k * 5, none⟩)) rfl, (fun ⟨hb0, y14⟩ => ⟨hb0, y14.keep (by decide)⟩) hZ, hP14.keep (j := 5) (by decide), hP15.keep (j := 5) (by decide), by simp [hz]⟩
              · skip
                have e5 : V2 5 = .pointer (some ⟨ga, k * 5, none⟩) := hv.get 5 (by decide) (by simp [hp])
                have HV := Lib.hid (hv.fixE e5 rfl)
                clear hv
                simp only [e5]
                have hY := hZ
                obtain ⟨z0, z1, z2, z3, z4⟩ := hcs
                have y0 := keepc hY.1 z0 r2; have y1 := keepc hY.1 z1 r2; have y2 := keepc hY.1 z2 r2; have y3 := keepc hY.1 z3 r2; have y4 := keepc hY.1 z4 r2
                refine wpOp_go rfl rfl (fun K hK => ?_)
                go_simp
                refine hK _ _ ?_
                exact ⟨_, _, _, rfl, HV.out.new (x := .agg #[.bool (sn (na x)), .slice A1 (ln (ab (na x))) (ln (ab (na x))), .bool (sn (nb x)), .slice A2 (ln (ab (nb x))) (ln (ab (nb x))), .slice A3 (ln (un x)) (ln (un x))]) rfl, (fun ⟨hb0, y14⟩ => ⟨hb0, y14.keep (by decide)⟩) hZ, hP14.keep (j := 6) (by decide), hP15.keep (j := 6) (by decide), by simp [hz]⟩
              · skip
                have HV := Lib.hid hv
                clear hv
                refine wpOp_go rfl rfl (fun K hK => ?_)
                go_simp
                refine hK _ _ ?_
                exact ⟨_, _, _, rfl, HV.out.new (x := .slice (some ⟨bB, fo2, none⟩) n c2) rfl, (fun ⟨hb0, y14⟩ => ⟨hb0, y14.keep (by decide)⟩) hZ, hP14.keep (j := 7) (by decide), hP15.keep (j := 7) (by decide), by simp [hz]⟩
              · skip
                have HV := Lib.hid hv
                clear hv
                refine wpOp_go rfl rfl (fun K hK => ?_)
                go_simp
                refine hK _ _ ?_
                exact ⟨_, _, _, rfl, HV.out.new (x := .int .i64 i) rfl, (fun ⟨hb0, y14⟩ => ⟨hb0, y14.keep (by decide)⟩) hZ, hP14.keep (j := 8) (by decide), hP15.keep (j := 8) (by decide), by simp [hz]⟩
              · skip
                have e7 : V2 7 = .slice (some ⟨bB, fo2, none⟩) n c2 := hv.get 7 (by decide) (by simp [hp])
                have e8 : V2 8 = .int .i64 i := hv.get 8 (by decide) (by simp [hp])
                have HV := Lib.hid ((hv.fixE e7 rfl).fixE e8 rfl)
                clear hv
                simp only [e7, e8]
                refine wpOp_go rfl rfl (fun K hK => ?_)
                go_simp
                refine hK _ _ ?_
                exact ⟨_, _, _, rfl, HV.out.new (x := .pointer (some ⟨bB, fo2 + i, none⟩)) rfl, (fun ⟨hb0, y14⟩ => ⟨hb0, y14.keep (by decide)⟩) hZ, hP14.keep (j := 9) (by decide), hP15.keep (j := 9) (by decide), by simp [hz]⟩
              · skip
                have e9 : V2 9 = .pointer (some ⟨bB, fo2 + i, none⟩) := hv.get 9 (by decide) (by simp [hp])
                have HV := Lib.hid (hv.fixE e9 rfl)
                clear hv
                simp only [e9]
                have hY := hZ
                have z := keepc hY.1 p3 hlB2
                refine wpOp_go rfl rfl (fun K hK => ?_)
                go_simp
                refine hK _ _ ?_
                exact ⟨_, _, _, rfl, HV.out.new (x := .slice (some ⟨gb, 0, none⟩) m Li) rfl, (fun ⟨hb0, y14⟩ => ⟨hb0, y14.keep (by decide)⟩) hZ, hP14.keep (j := 10) (by decide), hP15.keep (j := 10) (by decide), by simp [hz]⟩
              · skip
                have HV := Lib.hid hv
                clear hv
                refine wpOp_go rfl rfl (fun K hK => ?_)
                go_simp
                refine hK _ _ ?_
                exact ⟨_, _, _, rfl, HV.out.new (x := .int .i64 k) rfl, (fun ⟨hb0, y14⟩ => ⟨hb0, y14.keep (by decide)⟩) hZ, hP14.keep (j := 11) (by decide), hP15.keep (j := 11) (by decide), by simp [hz]⟩
              · skip
                have e10 : V2 10 = .slice (some ⟨gb, 0, none⟩) m Li := hv.get 10 (by decide) (by simp [hp])
                have e11 : V2 11 = .int .i64 k := hv.get 11 (by decide) (by simp [hp])
                have HV := Lib.hid ((hv.fixE e10 rfl).fixE e11 rfl)
                clear hv
                simp only [e10, e11]
                refine wpOp_go rfl rfl (fun K hK => ?_)
                go_simp
                refine hK _ _ ?_
                exact ⟨_, _, _, rfl, HV.out.new (x := .pointer (some ⟨gb, k * 5, none⟩)) rfl, (fun ⟨hb0, y14⟩ => ⟨hb0, y14.keep (by decide)⟩) hZ, hP14.keep (j := 12) (by decide), hP15.keep (j := 12) (by decide), by simp [hz]⟩
              · skip
                have e12 : V2 12 = .pointer (some ⟨gb, k * 5, none⟩) := hv.get 12 (by decide) (by simp [hp])
                have HV := Lib.hid (hv.fixE e12 rfl)
                clear hv
                simp only [e12]
                have hY := hZ
                obtain ⟨z0, z1, z2, z3, z4⟩ := hds
                have y0 := keepc hY.1 z0 p2; have y1 := keepc hY.1 z1 p2; have y2 := keepc hY.1 z2 p2; have y3 := keepc hY.1 z3 p2; have y4 := keepc hY.1 z4 p2
                refine wpOp_go rfl rfl (fun K hK => ?_)
                go_simp
                refine hK _ _ ?_
                exact ⟨_, _, _, rfl, HV.out.new (x := .agg #[.bool (sn (na y)), .slice B1 (ln (ab (na y))) (ln (ab (na y))), .bool (sn (nb y)), .slice B2 (ln (ab (nb y))) (ln (ab (nb y))), .slice B3 (ln (un y)) (ln (un y))]) rfl, (fun ⟨hb0, y14⟩ => ⟨hb0, y14.keep (by decide)⟩) hZ, hP14.keep (j := 13) (by decide), hP15.keep (j := 13) (by decide), by simp [hz]⟩
              · skip
                have e6 : V2 6 = .agg #[.bool (sn (na x)), .slice A1 (ln (ab (na x))) (ln (ab (na x))), .bool (sn (nb x)), .slice A2 (ln (ab (nb x))) (ln (ab (nb x))), .slice A3 (ln (un x)) (ln (un x))] := hv.get 6 (by decide) (by simp [hp])
                have e13 : V2 13 = .agg #[.bool (sn (na y)), .slice B1 (ln (ab (na y))) (ln (ab (na y))), .bool (sn (nb y)), .slice B2 (ln (ab (nb y))) (ln (ab (nb y))), .slice B3 (ln (un y)) (ln (un y))] := hv.get 13 (by decide) (by simp [hp])
                have HV := Lib.hid ((hv.fixE e6 rfl).fixE e13 rfl)
                clear hv
                simp only [e6, e13]
                have hY := hZ
                refine wpOp_go rfl rfl (fun K hK => ?_)
                go_wp2_with (first | (go_at_call 11; refine (same_to x y A1 A2 A3 B1 B2 B3 _ (hN.to hY.1) (hM.to hY.1) ZZ.out.1 ZZ.out.2.1 ZZ.out.2.2).mono ?_; rintro e wf ⟨rfl, hb⟩))
                try refine hK _ _ ?_
                exact ⟨_, _, _, rfl, HV.out.other (by decide), ⟨hY.1.trans (hb.mono hY.1.size), On.new (rfl)⟩, On.new (rfl), hP15.keep (j := 14) (by decide), by simp [hz]⟩
              · skip
                have HV := Lib.hid hv
                clear hv
                have e14 := hP14.get (by simp [hp])
                subst e14
                refine wpOp_go rfl rfl (fun K hK => ?_)
                go_simp
                refine hK _ _ ?_
                exact ⟨_, _, _, rfl, HV.out.other (by decide), (fun ⟨hb0, y14⟩ => ⟨hb0, y14.keep (by decide)⟩) hZ, hP14.keep (j := 15) (by decide), On.new (rfl), by simp [hz]⟩
            · intro l a' W' hr hI
              obtain ⟨V2, x14, x15, rfl, hv, hZ, hP14, hP15, hz⟩ := hI
              have a0 := not_ready (i := 0) hr hz rfl (by simp [Region.binds])
              have a1 := not_ready (i := 1) hr hz rfl (by simp [Region.binds, a0])
              have a2 := not_ready (i := 2) hr hz rfl (by simp [Region.binds, a0, a1])
              have a3 := not_ready (i := 3) hr hz rfl (by simp [Region.binds, a0, a1, a2])
              have a4 := not_ready (i := 4) hr hz rfl (by simp [Region.binds, a0, a1, a2, a3])
              have a5 := not_ready (i := 5) hr hz rfl (by simp [Region.binds, a0, a1, a2, a3, a4])
              have a6 := not_ready (i := 6) hr hz rfl (by simp [Region.binds, a0, a1, a2, a3, a4, a5])
              have a7 := not_ready (i := 7) hr hz rfl (by simp [Region.binds, a0, a1, a2, a3, a4, a5, a6])
              have a8 := not_ready (i := 8) hr hz rfl (by simp [Region.binds, a0, a1, a2, a3, a4, a5, a6, a7])
              have a9 := not_ready (i := 9) hr hz rfl (by simp [Region.binds, a0, a1, a2, a3, a4, a5, a6, a7, a8])
              have a10 := not_ready (i := 10) hr hz rfl (by simp [Region.binds, a0, a1, a2, a3, a4, a5, a6, a7, a8, a9])
              have a11 := not_ready (i := 11) hr hz rfl (by simp [Region.binds, a0, a1, a2, a3, a4, a5, a6, a7, a8, a9, a10])
              have a12 := not_ready (i := 12) hr hz rfl (by simp [Region.binds, a0, a1, a2, a3, a4, a5, a6, a7, a8, a9, a10, a11])
              have a13 := not_ready (i := 13) hr hz rfl (by simp [Region.binds, a0, a1, a2, a3, a4, a5, a6, a7, a8, a9, a10, a11, a12])
              have a14 := not_ready (i := 14) hr hz rfl (by simp [Region.binds, a0, a1, a2, a3, a4, a5, a6, a7, a8, a9, a10, a11, a12, a13])
              have a15 := not_ready (i := 15) hr hz rfl (by simp [Region.binds, a0, a1, a2, a3, a4, a5, a6, a7, a8, a9, a10, a11, a12, a13, a14])
              have hY : Below wr.heap.size wr W' ∧ (SlotB W' x14 true) := ⟨hZ.1, hZ.2.get a14⟩
              have hQ15 := hP15.get a15
              clear hr hz hv hZ a0 a1 a2 a3 a4 a5 a6 a7 a8 a9 a10 a11 a12 a13 a14 a15 hP14 hP15
              rw [hQ15]
              have HBN := Lib.hid (HBB.out.trans (hY.1.mono HBB.out.size))
              clear hQ15 hY
              go_wp2_with fail
              go_roundw
              case rel => exact ⟨k + 1, by omega, by go_num, HBN.out⟩
              case measure => simp [intOf]; omega
            · exact ⟨fun zz => List.getD [u36, u37, u38, u39, u40, u41, u42, u43, u44, u45, u46, u47, u48, u49, u50, u51] zz undef, _, _, rfl, OnFix.start, ⟨((Below.refl _ _).drew), fun h => absurd h (by decide)⟩, fun h => absurd h (by decide), fun h => absurd h (by decide), by simp⟩
          · obtain rfl : k = m := by omega
            have HBN := Lib.hid (HBW.out.trans (hb.mono HBW.out.size))
            clear hb
            go_wp2_with fail
            go_roundw
            case rel => exact ⟨i + 1, by omega, by go_num, HBN.out⟩
            case measure => simp [intOf]; omega
      · exact ⟨fun zz => List.getD [u17, u18, u19, u20, u21, u22, u23, u24, u25, u26, u27] zz undef, rfl, OnFix.start, ((Below.refl _ _).drew), by simp⟩
    · obtain rfl : i = n := by omega
      go_wp2_with fail
      go_ret
      exact ⟨rfl, hb⟩
end Go.Proofs.Ytdpjknjlhchmcaa

namespace Go.Proofs.Ytdpjknjlhchmcaa
open Go.RowKit Pl
set_option linter.unusedVariables false
set_option linter.unusedSimpArgs false
theorem sz_sqm {w : World} {A : Option Addr} {k : Nat} {X Y Z : Nat → Int} (hT : Triples w A k X Y Z) (n i j : Nat) : sz 2 (sqm k n X Y Z i j) := by
  unfold sqm
  split
  · exact sz_int0.mono (by decide)
  · obtain ⟨_, _, _, _, _, _, _, rx, ry, rz⟩ := hT ((i * n + j) % k) (Nat.mod_lt _ (by omega))
    exact sz_of rx ry rz
theorem valid_const (n m : Nat) (h : n ≤ 32) (h2 : m ≤ 32) : Valid n (fun _ => m) := .inr ⟨h, h2, fun _ _ => rfl⟩
theorem col_same (n : Nat) : colN n (fun _ => n) = n := by
  unfold colN
  by_cases h : n = 0
  · rw [if_pos h, h]
  · rw [if_neg h]
end Go.Proofs.Ytdpjknjlhchmcaa
