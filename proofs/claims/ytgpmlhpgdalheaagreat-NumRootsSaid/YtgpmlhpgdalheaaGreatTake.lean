/- 'take': a multiple of a number is subtracted from the upper words of another one, in place. -/
import Derived.Test.YtgpmlhpgdalheaaGreatShort
import Derived.Test.YtgpmlhpgdalheaaGreatKnuth
namespace Go.Proofs.YtgpmlhpgdalheaaGreat
open Go.RowKit Pl

/-- The words of u, those from j on below j + k in the place of d's. -/
def seg (u d j k i : Nat) : Value := .int .u32 ((if j ≤ i ∧ i < j + k then wd d (i - j) else wd u i : Nat) : Int)
theorem seg_zero (u d j i : Nat) : rowN u i = seg u d j 0 i := by unfold seg rowN; rw [if_neg (by omega)]
theorem seg_at (u d j k : Nat) : seg u d j k (k + j) = .int .u32 (wd u (k + j) : Nat) := by unfold seg; rw [if_neg (by omega)]
theorem seg_step {u d j k i : Nat} {v : Value} (hv : v = .int .u32 (wd d k : Nat)) : (if i = k + j then v else seg u d j k i) = seg u d j (k + 1) i := by
  unfold seg
  by_cases h : i = k + j
  · subst h; rw [if_pos rfl, hv, if_pos (by omega), show k + j - j = k by omega]
  · rw [if_neg h]
    by_cases h2 : j ≤ i ∧ i < j + k
    · rw [if_pos h2, if_pos (by omega)]
    · rw [if_neg h2, if_neg (by omega)]

/-- The carry out of the words of q V below k. -/
def qc (q V k : Nat) : Nat := q * (V % 4294967296 ^ k) / 4294967296 ^ k
theorem qc_zero (q V : Nat) : qc q V 0 = 0 := by simp [qc, Nat.mod_one]
theorem qc_lt {q V k : Nat} (hq : q < 4294967296) : qc q V k < 4294967296 := by
  unfold qc
  rw [Nat.div_lt_iff_lt_mul (pow_pos' k)]
  have h1 := Nat.mod_lt V (pow_pos' k)
  have h2 : q * (V % 4294967296 ^ k) ≤ 4294967295 * (V % 4294967296 ^ k) := Nat.mul_le_mul_right _ (by omega)
  have h3 : 4294967295 * (V % 4294967296 ^ k) ≤ 4294967295 * 4294967296 ^ k := Nat.mul_le_mul_left _ (by omega)
  have h4 := pow_pos' k
  omega
/-- One product with the carry that came in. -/
def qp (q V k : Nat) : Nat := q * wd V k + qc q V k
theorem qp_div (q V k : Nat) : qp q V k / 4294967296 = qc q V (k + 1) := by
  unfold qp qc
  rw [mod_succ, Nat.mul_add, Nat.pow_succ, ← Nat.div_div_eq_div_mul, show q * (4294967296 ^ k * wd V k) = 4294967296 ^ k * (q * wd V k) by rw [Nat.mul_left_comm], Nat.add_mul_div_left _ _ (pow_pos' k), Nat.add_comm]
theorem qp_mod (q V k : Nat) : qp q V k % 4294967296 = wd (q * V) k := by
  have h1 : q * V / 4294967296 ^ k = q * (V / 4294967296 ^ k) + qc q V k := by
    unfold qc
    conv => lhs; rw [← Nat.div_add_mod V (4294967296 ^ k)]
    rw [Nat.mul_add, show q * (4294967296 ^ k * (V / 4294967296 ^ k)) = 4294967296 ^ k * (q * (V / 4294967296 ^ k)) by rw [Nat.mul_left_comm], Nat.mul_add_div (pow_pos' k)]
  unfold qp wd
  rw [h1]
  conv => lhs; rw [Nat.add_mod, Nat.mul_mod, Nat.mod_mod]
  conv => rhs; rw [Nat.add_mod, Nat.mul_mod]
theorem qc_end {q V n : Nat} (hV : V < 4294967296 ^ n) : qc q V n = q * V / 4294967296 ^ n := by unfold qc; rw [Nat.mod_eq_of_lt hV]

/-- The difference, over the base. -/
def tk (W X n : Nat) : Nat := W + 4294967296 ^ (n + 1) - X

theorem tk_word {W X n k : Nat} (hk : k ≤ n) (hX : X ≤ W + 4294967296 ^ (n + 1)) : (wd W k + 8589934592 - wd X k - sb W X k) % 4294967296 = wd (tk W X n) k := by
  have e : 4294967296 ^ (n + 1) = 4294967296 ^ k * 4294967296 * 4294967296 ^ (n - k) := by
    rw [← Nat.pow_succ, ← Nat.pow_add]; congr 1; omega
  have h := sub_word (X := W) (Y := X) (pow_pos' k) (4294967296 ^ (n - k)) (by rw [← e]; exact hX)
  unfold tk wd sb
  rw [e]
  exact h

theorem grown_set {a w : World} {g : Nat} (h : a.grownBy w (some g)) {p : Addr} (hp : p.block = g) (u : Value) : a.grownBy (w.setCell p u) (some g) :=
  ⟨h.os, h.tape, h.output, by simpa [World.setCell] using h.size, fun i hi hne => (Below.heap_setCell w p u i (by
    rintro rfl
    exact hne (by rw [hp]))).trans (h.block i hi hne)⟩
theorem grown_cell {a w : World} {g : Nat} (h : a.grownBy w (some g)) {b i : Nat} (hb : b < a.heap.size) (hne : b ≠ g) : w.cell? ⟨b, i, none⟩ = a.cell? ⟨b, i, none⟩ :=
  World.cell?_of_block (h.block b hb (fun e => hne (by injection e)))

/-- One word of a difference, as the program reckons it in 64 bits. -/
theorem t64 {a b c : Nat} (ha : a < 4294967296) (hb : b < 4294967296) (hc : c ≤ 1) : (IntKind.u64.wrap (IntKind.u64.wrap ((a : Int) - (b : Int)) - (c : Int))) % 4294967296 = (((a + 8589934592 - b - c) % 4294967296 : Nat) : Int) ∧
    (IntKind.u64.wrap (IntKind.u64.wrap ((a : Int) - (b : Int)) - (c : Int))) / 9223372036854775808 = (bw a b c : Nat) := by
  rw [IntKind.wrap_u64, IntKind.wrap_u64]
  unfold bw
  constructor
  · omega
  · split <;> omega

theorem qp_lo {q V X k : Nat} (h : X = q * V) : ((q : Int) * (wd V k : Int) + (qc q V k : Int)) % 4294967296 = (wd X k : Nat) := by
  have := qp_mod q V k
  have e : ((qp q V k : Nat) : Int) = (q : Int) * (wd V k : Int) + (qc q V k : Int) := by unfold qp; rw [Int.natCast_add, Int.natCast_mul]
  rw [← e, h]; omega
theorem qp_hi (q V k : Nat) : ((q : Int) * (wd V k : Int) + (qc q V k : Int)) / 4294967296 = (qc q V (k + 1) : Nat) := by
  have := qp_div q V k
  have e : ((qp q V k : Nat) : Int) = (q : Int) * (wd V k : Int) + (qc q V k : Int) := by unfold qp; rw [Int.natCast_add, Int.natCast_mul]
  rw [← e]; omega

theorem sb_last {W X n : Nat} (hW : W < 4294967296 ^ (n + 1)) (hX : X < 4294967296 ^ (n + 1)) : sb W X (n + 1) = if W < X then 1 else 0 := by
  unfold sb bor
  rw [Nat.mod_eq_of_lt hW, Nat.mod_eq_of_lt hX]

set_option maxHeartbeats 1000000 in
theorem take_any (w : World) (g m n j U V q : Nat) (B : Option Addr) (hm : m ≤ 70368744177664) (hjn : j + n < m) (hn : n = ln V) (hq : q < 4294967296) (hrow : w.rowIs g 45 m (rowN U))
    (hv : Nat32 w B V) (hne : B ≠ some ⟨g, 0, none⟩) (hU : U < 4294967296 ^ (j + n + 1)) :
    Calls Tryz.prog 190 #[.slice (some ⟨g, 0, none⟩) m m, .slice B n n, .int .u64 (q : Nat), .int .i64 (j : Nat)] w fun e w' =>
      e = .returned (.bool (decide (U / 4294967296 ^ j < q * V))) ∧ w'.rowIs g 45 m (seg U (tk (U / 4294967296 ^ j) (q * V) n) j (n + 1)) ∧ w.grownBy w' (some g) := by
  have hVn : V < 4294967296 ^ n := by rw [hn]; exact lt_ln V
  have hX : q * V < 4294967296 ^ (n + 1) := by
    rw [Nat.pow_succ]
    have h1 : q * V ≤ 4294967296 * V := Nat.mul_le_mul_right _ (by omega)
    omega
  have HV := Lib.hid hn
  obtain ⟨X, hXe⟩ : ∃ X, X = q * V := ⟨_, rfl⟩
  obtain ⟨W, hWe⟩ : ∃ W, W = U / 4294967296 ^ j := ⟨_, rfl⟩
  rw [← hXe] at hX
  rw [← hXe, ← hWe]
  have HX := Lib.hid hXe
  have HW := Lib.hid hWe
  clear hn hXe hWe
  have hWn : W < 4294967296 ^ (n + 1) := by
    rw [HW.out, Nat.div_lt_iff_lt_mul (pow_pos' j), ← Nat.pow_add, show n + 1 + j = j + n + 1 by omega]; exact hU
  have hwd : ∀ k, wd W k = wd U (k + j) := fun k => by rw [HW.out, wd_div, Nat.add_comm]
  have HD := Lib.hid hwd
  clear hwd
  go_enter Tryz.func190, Tryz.ntmps190
  go_wp2_with fail
  go_loopw [9, 10, 18] (fun c b i wr => ∃ k : Nat, k ≤ n ∧ i = .int .i64 k ∧ c = .int .u64 (qc q V k : Nat) ∧ b = .int .u64 (sb W X k : Nat) ∧ wr.rowIs g 45 m (seg U (tk W X n) j k) ∧ w.grownBy wr (some g)) (fun _ _ i _ => n - (intOf i).toNat)
  case atStart => exact ⟨0, Nat.zero_le _, rfl, by rw [qc_zero]; rfl, by rw [sb_zero]; rfl, hrow.congr fun i _ => seg_zero _ _ _ _, World.grownBy.refl _ _⟩
  case round =>
    obtain ⟨k, hk, rfl, rfl, rfl, hrowk, hgk⟩ := hrel
    have c1 := qc_lt (V := V) (k := k) hq
    have c2 := sb_le W X k
    by_cases hlt : k < n
    · have hV0 : V ≠ 0 := fun e => by have := HV.out; rw [e, ln_zero] at this; omega
      obtain ⟨b, rfl, hb, hcv⟩ := hv hV0
      have hbg : b ≠ g := fun e => hne (by rw [e])
      have hvk := (grown_cell hgk (i := k) hb hbg).trans (hcv k (by have := HV.out; omega))
      have hst := hrowk.cell (i := k + j) (by omega)
      rw [seg_at] at hst
      have hfr := hrowk.frozen (k + j)
      have b1 := wd_lt V k
      have b2 := wd_lt U (k + j)
      have b3 := prod_le hq b1
      have b4 : 0 ≤ (q : Int) * (wd V k : Int) := Int.mul_nonneg (by omega) (by omega)
      clear hcv
      have hX2 : X ≤ W + 4294967296 ^ (n + 1) := by omega
      have H1 := Lib.hid (qp_lo (k := k) HX.out)
      have H2 := Lib.hid (qp_hi q V k)
      have H3 := Lib.hid (t64 (wd_lt W k) (wd_lt X k) (sb_le W X k))
      rw [HD.out k] at H3
      have H4 := Lib.hid (tk_word (k := k) (by omega) hX2)
      have H5 := Lib.hid (sb_step W X k)
      rw [HD.out k] at H4 H5
      go_wp2
      go_roundw
      case rel => exact ⟨k + 1, by omega, by go_num, int_val (by rw [H2.out]), int_val (by rw [H1.out, H3.out.2, H5.out]), (hrowk.set _ _).congr fun i _ => seg_step (int_val (by rw [H1.out, H3.out.1, H4.out])), grown_set hgk rfl _⟩
      case measure => simp [intOf]; omega
    · obtain rfl : k = n := by omega
      have hst := hrowk.cell (i := k + j) (by omega)
      rw [seg_at, Nat.add_comm k j] at hst
      have hfr := hrowk.frozen (j + k)
      have b2 := wd_lt U (j + k)
      have hX2 : X ≤ W + 4294967296 ^ (k + 1) := by omega
      have H0 := Lib.hid (show qc q V k = wd X k by rw [qc_end hVn, lin_top hX, HX.out])
      have H3 := Lib.hid (t64 (wd_lt W k) (wd_lt X k) (sb_le W X k))
      rw [HD.out k, Nat.add_comm k j] at H3
      have H4 := Lib.hid (tk_word (k := k) (by omega) hX2)
      have H5 := Lib.hid (sb_step W X k)
      rw [HD.out k, Nat.add_comm k j] at H4 H5
      have H6 := Lib.hid (sb_last hWn hX)
      go_wp2
      go_ret
      have hv1 := H3.out.1
      have hv2 := H3.out.2
      rw [H4.out, ← H0.out] at hv1
      rw [← H0.out] at hv2
      refine ⟨ret_bool ?_, (hrowk.set _ _).congr fun i _ => ?_, grown_set hgk rfl _⟩
      · rw [hv2, H0.out, H5.out, H6.out]
        by_cases h : W < X
        · rw [if_pos h, decide_eq_true h]; rfl
        · rw [if_neg h, decide_eq_false h]; rfl
      · rw [show Value.int IntKind.u32 _ = Value.int .u32 (wd (tk W X k) k : Nat) from int_val hv1, Nat.add_comm j k]
        exact seg_step rfl
end Go.Proofs.YtgpmlhpgdalheaaGreat
